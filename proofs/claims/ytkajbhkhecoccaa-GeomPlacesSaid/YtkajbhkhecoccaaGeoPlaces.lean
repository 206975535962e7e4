/- Where things are told to stand: the walks of lazaretref08.find and At, and of the law GeomPlaces. -/
import Derived.Test.YtkajbhkhecoccaaGeoRefWhat
import Derived.Deep.RegionWith
import Derived.Outline
set_option linter.unusedVariables false
set_option linter.unusedSimpArgs false
namespace Go.Proofs.Ytkajbhkhecoccaa.GeoPlaces
open Go.RowKit Go.Proofs.Ytkajbhkhecoccaa.PGeomOnce Go.Proofs.YtkajbhkhecoccaaW.PrintWords Go.Proofs.YtkajbhkhecoccaaW.PrintLast Go.Proofs.YtkajbhkhecoccaaW.PrintMore Go.Proofs.Ytkajbhkhecoccaa.GeoWhat Go.Proofs.Ytkajbhkhecoccaa.GeoRef Go.Proofs.Ytkajbhkhecoccaa.GeoRefWhat

/-- the first sector that holds something; -1: none does -/
def FindR (H S k h i r : Int) : Prop :=
  (r = -1 ∧ ∀ a, 0 ≤ a → a < S → goWhat H S a ≠ (k, h, i)) ∨ (0 ≤ r ∧ r < S ∧ goWhat H S r = (k, h, i) ∧ ∀ a, 0 ≤ a → a < r → goWhat H S a ≠ (k, h, i))
theorem find_some (H S k h i : Int) : ∃ r, FindR H S k h i r := by
  have key : ∀ n : Nat, (n : Int) ≤ S → (∃ r, FindR H S k h i r) ∨ ∀ a : Int, 0 ≤ a → a < n → goWhat H S a ≠ (k, h, i) := by
    intro n
    induction n with
    | zero => intro _; right; intro a h1 h2; omega
    | succ n ih =>
      intro hn
      rcases ih (by omega) with h1 | h1
      · exact .inl h1
      · by_cases e : goWhat H S n = (k, h, i)
        · exact .inl ⟨n, .inr ⟨by omega, by omega, e, h1⟩⟩
        · right
          intro a h2 h3
          by_cases e2 : a = n
          · rw [e2]; exact e
          · exact h1 a h2 (by omega)
  by_cases hS : 0 ≤ S
  · rcases key S.toNat (by omega) with h1 | h1
    · exact h1
    · exact ⟨-1, .inl ⟨rfl, fun a h2 h3 => h1 a h2 (by omega)⟩⟩
  · exact ⟨-1, .inl ⟨rfl, fun a h2 h3 => by omega⟩⟩
/-- goWhat, at a name -/
theorem what_at {q S Z : Int} (L : Lay q S Z) (a x y z : Int) (w : World) (h : goWhat (2 * q + 148) S a = (x, y, z)) :
    Calls Try.prog 31 #[.agg #[.int .i64 S, .int .i64 (2 * q + 148), .int .i64 2, .int .i64 4, .int .i64 28, .int .i64 Z], .int .i64 a] w fun e w' => e = .returned (.tuple #[.int .i64 x, .int .i64 y, .int .i64 z]) ∧ Below w.heap.size w w' := by
  have := rw_calls L a w
  rw [h] at this
  exact this


set_option maxHeartbeats 4000000 in
set_option maxRecDepth 100000 in
theorem find_calls {q S Z : Int} (L : Lay q S Z) (k h i r : Int) (hr : FindR (2 * q + 148) S k h i r) (w : World) :
    Calls Try.prog 42 #[.agg #[.int .i64 S, .int .i64 (2 * q + 148), .int .i64 2, .int .i64 4, .int .i64 28, .int .i64 Z], .int .i64 k, .int .i64 h, .int .i64 i] w fun e w' => e = .returned (.int .i64 r) ∧ Below w.heap.size w w' := by
  have hS : S ≤ 3916 := by have := L.s; have := L.hi; omega
  have hS0 : 0 ≤ S := by have := L.s; have := L.lo; omega
  have HL := Lib.hid L
  have HR := Lib.hid hr
  clear L hr
  go_enter Try.func42, Try.ntmps42
  go_wp2
  go_loopw [9] (fun v wr => ∃ a : Int, 0 ≤ a ∧ (a ≤ S ∧ (r = -1 ∨ a ≤ r)) ∧ v = .int .i64 a ∧ wr.heap[w.heap.size]? = some (.cells #[.int .i64 S, .int .i64 (2 * q + 148), .int .i64 2, .int .i64 4, .int .i64 28, .int .i64 Z] 31 (0, 0)) ∧ Below w.heap.size w wr) (fun v _ => (5000 - intOf v).toNat)
  case atStart =>
    have : r = -1 ∨ 0 ≤ r := by rcases HR.out with ⟨h1, -⟩ | ⟨h1, -⟩ <;> omega
    exact ⟨0, by omega, ⟨by omega, this⟩, rfl, blk_new _ _, below_alloc (Below.refl _ _) _⟩
  case round =>
    obtain ⟨a, hk1, hk2, rfl, hp, hbel⟩ := hrel
    have hp0 := hp
    have hzr : w.heap.size < wr.heap.size := blk_lt hp
    have hpc0 : wr.cell? ⟨w.heap.size, 0, none⟩ = some (.int .i64 S) := (blk_cell hp 0).trans rfl
    have hpf0 := blk_frozen hp 0
    have hpc1 : wr.cell? ⟨w.heap.size, 1, none⟩ = some (.int .i64 (2 * q + 148)) := (blk_cell hp 1).trans rfl
    have hpf1 := blk_frozen hp 1
    have hpc2 : wr.cell? ⟨w.heap.size, 2, none⟩ = some (.int .i64 2) := (blk_cell hp 2).trans rfl
    have hpf2 := blk_frozen hp 2
    have hpc3 : wr.cell? ⟨w.heap.size, 3, none⟩ = some (.int .i64 4) := (blk_cell hp 3).trans rfl
    have hpf3 := blk_frozen hp 3
    have hpc4 : wr.cell? ⟨w.heap.size, 4, none⟩ = some (.int .i64 28) := (blk_cell hp 4).trans rfl
    have hpf4 := blk_frozen hp 4
    have hpc5 : wr.cell? ⟨w.heap.size, 5, none⟩ = some (.int .i64 Z) := (blk_cell hp 5).trans rfl
    have hpf5 := blk_frozen hp 5

    have HK := Lib.hid hk2
    clear hk2
    by_cases he : a < S
    rotate_left
    · have c1 : decide (a < S) = false := decide_eq_false he
      have hr1 : r = -1 := by rcases HR.out with ⟨h1, -⟩ | ⟨h1, h2, -⟩; exact h1; rcases HK.out.2 with h3 | h3 <;> omega
      go_wp2
      go_ret
      exact ⟨by subst hr1; rfl, hbel⟩
    have c1 : decide (a < S) = true := decide_eq_true he
    have c0 : decide (a < 4096) = true := decide_eq_true (by omega)
    rcases hx : goWhat (2 * q + 148) S a with ⟨x, y, z⟩
    have hno : (x = k → y = h → z = i → r = a) ∧ (¬ (x = k ∧ y = h ∧ z = i) → r = -1 ∨ a + 1 ≤ r) := by
      constructor
      · intro h1 h2 h3
        subst h1 h2 h3
        rcases HR.out with ⟨h1, h2⟩ | ⟨h1, h2, h3, h4⟩
        · exact absurd hx (h2 a hk1 he)
        · rcases HK.out.2 with h5 | h5
          · omega
          · rcases Int.lt_or_le a r with h6 | h6
            · exact absurd hx (h4 a hk1 h6)
            · omega
      · intro hne
        rcases HR.out with ⟨h1, h2⟩ | ⟨h1, h2, h3, h4⟩
        · exact .inl h1
        · right
          rcases HK.out.2 with h5 | h5
          · omega
          · rcases Int.lt_or_le a r with h6 | h6
            · omega
            · have : a = r := by omega
              rw [this, h3] at hx
              simp only [Prod.mk.injEq] at hx
              exact absurd ⟨hx.1.symm, hx.2.1.symm, hx.2.2.symm⟩ hne
    have HX := Lib.hid hx
    have HN := Lib.hid hno
    clear hx hno
    have haS : a + 1 ≤ S := by omega
    by_cases e0 : x = k
    rotate_left
    · have c2 : (x == k) = false := beq_eq_false_iff_ne.mpr e0
      have hnx := HN.out.2 (fun h => e0 h.1)
      clear e0
      go_wp2_with (go_at_call 31; (with_reducible refine (what_at HL.out a x y z _ HX.out).mono ?_); rintro e w1 ⟨rfl, hb⟩; obtain ⟨hc, hf⟩ := bcell hb; have hz : w.heap.size < w1.heap.size := Nat.lt_of_lt_of_le hzr hb.size)
      go_roundw
      case rel => exact ⟨a + 1, by omega, ⟨haS, hnx⟩, by go_num, (by exact blk_below hp0 hb), (by exact below_step hbel hb)⟩
      case measure => simp [intOf]; omega
    have c2 : (x == k) = true := beq_iff_eq.mpr e0
    by_cases e1 : y = h
    rotate_left
    · have c3 : (y == h) = false := beq_eq_false_iff_ne.mpr e1
      have hnx := HN.out.2 (fun h => e1 h.2.1)
      clear e0 e1
      go_wp2_with (go_at_call 31; (with_reducible refine (what_at HL.out a x y z _ HX.out).mono ?_); rintro e w1 ⟨rfl, hb⟩; obtain ⟨hc, hf⟩ := bcell hb; have hz : w.heap.size < w1.heap.size := Nat.lt_of_lt_of_le hzr hb.size)
      go_roundw
      case rel => exact ⟨a + 1, by omega, ⟨haS, hnx⟩, by go_num, (by exact blk_below hp0 hb), (by exact below_step hbel hb)⟩
      case measure => simp [intOf]; omega
    have c3 : (y == h) = true := beq_iff_eq.mpr e1
    by_cases e2 : z = i
    rotate_left
    · have c4 : (z == i) = false := beq_eq_false_iff_ne.mpr e2
      have hnx := HN.out.2 (fun h => e2 h.2.2)
      clear e0 e1 e2
      go_wp2_with (go_at_call 31; (with_reducible refine (what_at HL.out a x y z _ HX.out).mono ?_); rintro e w1 ⟨rfl, hb⟩; obtain ⟨hc, hf⟩ := bcell hb; have hz : w.heap.size < w1.heap.size := Nat.lt_of_lt_of_le hzr hb.size)
      go_roundw
      case rel => exact ⟨a + 1, by omega, ⟨haS, hnx⟩, by go_num, (by exact blk_below hp0 hb), (by exact below_step hbel hb)⟩
      case measure => simp [intOf]; omega
    have c4 : (z == i) = true := beq_iff_eq.mpr e2
    have hra := HN.out.1 e0 e1 e2
    clear e0 e1 e2
    have HRA := Lib.hid hra
    clear hra
    go_wp2_with (go_at_call 31; (with_reducible refine (what_at HL.out a x y z _ HX.out).mono ?_); rintro e w1 ⟨rfl, hb⟩; obtain ⟨hc, hf⟩ := bcell hb; have hz : w.heap.size < w1.heap.size := Nat.lt_of_lt_of_le hzr hb.size)
    go_ret
    exact ⟨by rw [HRA.out]; rfl, below_step hbel hb⟩

set_option maxHeartbeats 4000000 in
set_option maxRecDepth 100000 in
theorem at_hit {q S Z : Int} (L : Lay q S Z) (k h i r : Int) (hr : FindR (2 * q + 148) S k h i r) (h0 : 0 ≤ r) (w : World) :
    Calls Try.prog 25 #[.agg #[.int .i64 S, .int .i64 (2 * q + 148), .int .i64 2, .int .i64 4, .int .i64 28, .int .i64 Z], .int .i64 k, .int .i64 h, .int .i64 i] w fun e w' => e = .returned (.tuple #[.int .i64 r, .int .i64 0]) ∧ Below w.heap.size w w' := by
  have hlo := L.lo
  have c1 : (q == 0) = false := by rw [beq_eq_false_iff_ne]; omega
  have c2 : decide (r < 0) = false := decide_eq_false (by omega)
  have HL := Lib.hid L
  have HR := Lib.hid hr
  clear L hr
  go_enter Try.func25, Try.ntmps25
  go_wp2_with (first | (go_at_call 33; (with_reducible refine (qr_good HL.out _).mono ?_); rintro e w1 ⟨rfl, hb1⟩; obtain ⟨hc1, hf1⟩ := bcell hb1; have hz1 : w.heap.size < w1.heap.size := Nat.lt_of_lt_of_le (by simp) hb1.size) | (go_at_call 42; (with_reducible refine (find_calls HL.out k h i r HR.out _).mono ?_); rintro e w2 ⟨rfl, hb2⟩; obtain ⟨hc2, hf2⟩ := bcell hb2; have hz2 : w.heap.size < w2.heap.size := Nat.lt_of_lt_of_le hz1 hb2.size))
  go_ret2
  exact ⟨rfl, below_step (below_step (below_alloc (Below.refl _ _) _) hb1) hb2⟩

set_option maxHeartbeats 4000000 in
set_option maxRecDepth 100000 in
theorem at_miss {q S Z : Int} (L : Lay q S Z) (k h i r : Int) (hr : FindR (2 * q + 148) S k h i r) (h0 : r < 0) (w : World) :
    Calls Try.prog 25 #[.agg #[.int .i64 S, .int .i64 (2 * q + 148), .int .i64 2, .int .i64 4, .int .i64 28, .int .i64 Z], .int .i64 k, .int .i64 h, .int .i64 i] w fun e w' => e = .returned (.tuple #[.int .i64 0, .int .i64 1]) ∧ Below w.heap.size w w' := by
  have hlo := L.lo
  have c1 : (q == 0) = false := by rw [beq_eq_false_iff_ne]; omega
  have c2 : decide (r < 0) = true := decide_eq_true (by omega)
  have HL := Lib.hid L
  have HR := Lib.hid hr
  clear L hr
  go_enter Try.func25, Try.ntmps25
  go_wp2_with (first | (go_at_call 33; (with_reducible refine (qr_good HL.out _).mono ?_); rintro e w1 ⟨rfl, hb1⟩; obtain ⟨hc1, hf1⟩ := bcell hb1; have hz1 : w.heap.size < w1.heap.size := Nat.lt_of_lt_of_le (by simp) hb1.size) | (go_at_call 42; (with_reducible refine (find_calls HL.out k h i r HR.out _).mono ?_); rintro e w2 ⟨rfl, hb2⟩; obtain ⟨hc2, hf2⟩ := bcell hb2; have hz2 : w.heap.size < w2.heap.size := Nat.lt_of_lt_of_le hz1 hb2.size))
  go_ret2
  exact ⟨rfl, below_step (below_step (below_alloc (Below.refl _ _) _) hb1) hb2⟩

set_option maxHeartbeats 4000000 in
set_option maxRecDepth 100000 in
theorem at_none {g0 g1 g2 g3 g4 g5 : Int} (N : NoLay g0 g1 g2 g3 g4 g5) (k h i : Int) (w : World) :
    Calls Try.prog 25 #[.agg #[.int .i64 g0, .int .i64 g1, .int .i64 g2, .int .i64 g3, .int .i64 g4, .int .i64 g5], .int .i64 k, .int .i64 h, .int .i64 i] w fun e w' => e = .returned (.tuple #[.int .i64 0, .int .i64 1]) ∧ Below w.heap.size w w' := by
  have HN := Lib.hid N
  clear N
  go_enter Try.func25, Try.ntmps25
  go_wp2_with (go_at_call 33; (with_reducible refine (qr_none HN.out _).mono ?_); rintro e w1 ⟨rfl, hb1⟩; obtain ⟨hc1, hf1⟩ := bcell hb1; have hz1 : w.heap.size < w1.heap.size := Nat.lt_of_lt_of_le (by simp) hb1.size)
  go_ret2
  exact ⟨rfl, below_step (below_alloc (Below.refl _ _) _) hb1⟩

set_option maxHeartbeats 4000000 in
set_option maxRecDepth 100000 in
theorem places_neg (g0 g1 g2 g3 g4 g5 n half a er b f c h x0 i0 : Int) (w : World) (hn : n < 0)
    (h22 : ∀ w, Calls Try.prog 22 #[.agg #[.int .i64 g0, .int .i64 g1, .int .i64 g2, .int .i64 g3, .int .i64 g4, .int .i64 g5], .int .i64 n, .int .i64 half] w fun e w' => e = .returned (.tuple #[.int .i64 0, .int .i64 1]) ∧ Below w.heap.size w w')
    (h23 : ∀ w, Calls Try.prog 23 #[.agg #[.int .i64 g0, .int .i64 g1, .int .i64 g2, .int .i64 g3, .int .i64 g4, .int .i64 g5], .int .i64 n, .int .i64 half] w fun e w' => e = .returned (.tuple #[.int .i64 b, .int .i64 f]) ∧ Below w.heap.size w w')
    (h24 : ∀ w, Calls Try.prog 24 #[.agg #[.int .i64 g0, .int .i64 g1, .int .i64 g2, .int .i64 g3, .int .i64 g4, .int .i64 g5], .int .i64 half] w fun e w' => e = .returned (.tuple #[.int .i64 c, .int .i64 h]) ∧ Below w.heap.size w w')
    (h25 : ∀ w, Calls Try.prog 25 #[.agg #[.int .i64 g0, .int .i64 g1, .int .i64 g2, .int .i64 g3, .int .i64 g4, .int .i64 g5], .int .i64 2, .int .i64 half, .int .i64 (n.tmod 2)] w fun e w' => e = .returned (.tuple #[.int .i64 x0, .int .i64 i0]) ∧ Below w.heap.size w w')
    (h26 : ∀ w, Calls Try.prog 25 #[.agg #[.int .i64 g0, .int .i64 g1, .int .i64 g2, .int .i64 g3, .int .i64 g4, .int .i64 g5], .int .i64 3, .int .i64 half, .int .i64 n] w fun e w' => e = .returned (.tuple #[.int .i64 b, .int .i64 f]) ∧ Below w.heap.size w w')
    (h27 : ∀ w, Calls Try.prog 25 #[.agg #[.int .i64 g0, .int .i64 g1, .int .i64 g2, .int .i64 g3, .int .i64 g4, .int .i64 g5], .int .i64 4, .int .i64 half, .int .i64 0] w fun e w' => e = .returned (.tuple #[.int .i64 c, .int .i64 h]) ∧ Below w.heap.size w w') :
    Calls Try.prog 5 #[.agg #[.int .i64 g0, .int .i64 g1, .int .i64 g2, .int .i64 g3, .int .i64 g4, .int .i64 g5], .agg #[.int .i64 n, .int .i64 half]] w fun e w' => e = .returned (.bool true) ∧ Below w.heap.size w w' := by
  have cn : decide (n < 0) = true := decide_eq_true hn
  have HA := Lib.hid go_alive
  have H22 := Lib.hid h22
  have H23 := Lib.hid h23
  have H24 := Lib.hid h24
  have H25 := Lib.hid h25
  have H26 := Lib.hid h26
  have H27 := Lib.hid h27
  clear h22 h23 h24 h25 h26 h27
  go_enter Try.func5, Try.ntmps5
  go_wp2_with (first
    | (go_at_call 17; (with_reducible refine (lazaretlaw08_alive.calls 4 true _ HA.out).mono ?_); rintro e w1 ⟨rfl, hb1⟩; obtain ⟨hc1, hf1⟩ := bcell hb1; have hz1 : w.heap.size + 1 < w1.heap.size := Nat.lt_of_lt_of_le (by simp) hb1.size; have hy1 : w.heap.size < w1.heap.size := by omega)
    | (go_at_call 22; (with_reducible refine (H22.out _).mono ?_); rintro e w2 ⟨rfl, hb2⟩; obtain ⟨hc2, hf2⟩ := bcell hb2; have hz2 : w.heap.size + 1 < w2.heap.size := Nat.lt_of_lt_of_le hz1 hb2.size; have hy2 : w.heap.size < w2.heap.size := by omega)
    | (go_at_call 23; (with_reducible refine (H23.out _).mono ?_); rintro e w3 ⟨rfl, hb3⟩; obtain ⟨hc3, hf3⟩ := bcell hb3; have hz3 : w.heap.size + 1 < w3.heap.size := Nat.lt_of_lt_of_le hz2 hb3.size; have hy3 : w.heap.size < w3.heap.size := by omega)
    | (go_at_call 24; (with_reducible refine (H24.out _).mono ?_); rintro e w4 ⟨rfl, hb4⟩; obtain ⟨hc4, hf4⟩ := bcell hb4; have hz4 : w.heap.size + 1 < w4.heap.size := Nat.lt_of_lt_of_le hz3 hb4.size; have hy4 : w.heap.size < w4.heap.size := by omega)
    | (go_at_call_of 25 (Value.int .i64 2); (with_reducible refine (H25.out _).mono ?_); rintro e w5 ⟨rfl, hb5⟩; obtain ⟨hc5, hf5⟩ := bcell hb5; have hz5 : w.heap.size + 1 < w5.heap.size := Nat.lt_of_lt_of_le hz4 hb5.size; have hy5 : w.heap.size < w5.heap.size := by omega)
    | (go_at_call_of 25 (Value.int .i64 3); (with_reducible refine (H26.out _).mono ?_); rintro e w6 ⟨rfl, hb6⟩; obtain ⟨hc6, hf6⟩ := bcell hb6; have hz6 : w.heap.size + 1 < w6.heap.size := Nat.lt_of_lt_of_le hz5 hb6.size; have hy6 : w.heap.size < w6.heap.size := by omega)
    | (go_at_call_of 25 (Value.int .i64 4); (with_reducible refine (H27.out _).mono ?_); rintro e w7 ⟨rfl, hb7⟩; obtain ⟨hc7, hf7⟩ := bcell hb7; have hz7 : w.heap.size + 1 < w7.heap.size := Nat.lt_of_lt_of_le hz6 hb7.size; have hy7 : w.heap.size < w7.heap.size := by omega))
  go_ret
  exact ⟨by first | rfl | (simp; done), (below_step (below_step (below_step (below_step (below_step (below_step (below_step (below_alloc (below_alloc (Below.refl _ _) _) _) hb1) hb2) hb3) hb4) hb5) hb6) hb7)⟩

set_option maxHeartbeats 4000000 in
set_option maxRecDepth 100000 in
theorem places_pos (g0 g1 g2 g3 g4 g5 n half a er b f c h x0 i0 : Int) (w : World) (hn : 0 ≤ n)
    (h22 : ∀ w, Calls Try.prog 22 #[.agg #[.int .i64 g0, .int .i64 g1, .int .i64 g2, .int .i64 g3, .int .i64 g4, .int .i64 g5], .int .i64 n, .int .i64 half] w fun e w' => e = .returned (.tuple #[.int .i64 a, .int .i64 er]) ∧ Below w.heap.size w w')
    (h23 : ∀ w, Calls Try.prog 23 #[.agg #[.int .i64 g0, .int .i64 g1, .int .i64 g2, .int .i64 g3, .int .i64 g4, .int .i64 g5], .int .i64 n, .int .i64 half] w fun e w' => e = .returned (.tuple #[.int .i64 b, .int .i64 f]) ∧ Below w.heap.size w w')
    (h24 : ∀ w, Calls Try.prog 24 #[.agg #[.int .i64 g0, .int .i64 g1, .int .i64 g2, .int .i64 g3, .int .i64 g4, .int .i64 g5], .int .i64 half] w fun e w' => e = .returned (.tuple #[.int .i64 c, .int .i64 h]) ∧ Below w.heap.size w w')
    (h25 : ∀ w, Calls Try.prog 25 #[.agg #[.int .i64 g0, .int .i64 g1, .int .i64 g2, .int .i64 g3, .int .i64 g4, .int .i64 g5], .int .i64 2, .int .i64 half, .int .i64 (n % 2)] w fun e w' => e = .returned (.tuple #[.int .i64 a, .int .i64 er]) ∧ Below w.heap.size w w')
    (h26 : ∀ w, Calls Try.prog 25 #[.agg #[.int .i64 g0, .int .i64 g1, .int .i64 g2, .int .i64 g3, .int .i64 g4, .int .i64 g5], .int .i64 3, .int .i64 half, .int .i64 n] w fun e w' => e = .returned (.tuple #[.int .i64 b, .int .i64 f]) ∧ Below w.heap.size w w')
    (h27 : ∀ w, Calls Try.prog 25 #[.agg #[.int .i64 g0, .int .i64 g1, .int .i64 g2, .int .i64 g3, .int .i64 g4, .int .i64 g5], .int .i64 4, .int .i64 half, .int .i64 0] w fun e w' => e = .returned (.tuple #[.int .i64 c, .int .i64 h]) ∧ Below w.heap.size w w') :
    Calls Try.prog 5 #[.agg #[.int .i64 g0, .int .i64 g1, .int .i64 g2, .int .i64 g3, .int .i64 g4, .int .i64 g5], .agg #[.int .i64 n, .int .i64 half]] w fun e w' => e = .returned (.bool true) ∧ Below w.heap.size w w' := by
  have cn : decide (n < 0) = false := decide_eq_false (by omega)
  have HA := Lib.hid go_alive
  have H22 := Lib.hid h22
  have H23 := Lib.hid h23
  have H24 := Lib.hid h24
  have H25 := Lib.hid h25
  have H26 := Lib.hid h26
  have H27 := Lib.hid h27
  clear h22 h23 h24 h25 h26 h27
  go_enter Try.func5, Try.ntmps5
  go_wp2_with (first
    | (go_at_call 17; (with_reducible refine (lazaretlaw08_alive.calls 4 true _ HA.out).mono ?_); rintro e w1 ⟨rfl, hb1⟩; obtain ⟨hc1, hf1⟩ := bcell hb1; have hz1 : w.heap.size + 1 < w1.heap.size := Nat.lt_of_lt_of_le (by simp) hb1.size; have hy1 : w.heap.size < w1.heap.size := by omega)
    | (go_at_call 22; (with_reducible refine (H22.out _).mono ?_); rintro e w2 ⟨rfl, hb2⟩; obtain ⟨hc2, hf2⟩ := bcell hb2; have hz2 : w.heap.size + 1 < w2.heap.size := Nat.lt_of_lt_of_le hz1 hb2.size; have hy2 : w.heap.size < w2.heap.size := by omega)
    | (go_at_call 23; (with_reducible refine (H23.out _).mono ?_); rintro e w3 ⟨rfl, hb3⟩; obtain ⟨hc3, hf3⟩ := bcell hb3; have hz3 : w.heap.size + 1 < w3.heap.size := Nat.lt_of_lt_of_le hz2 hb3.size; have hy3 : w.heap.size < w3.heap.size := by omega)
    | (go_at_call 24; (with_reducible refine (H24.out _).mono ?_); rintro e w4 ⟨rfl, hb4⟩; obtain ⟨hc4, hf4⟩ := bcell hb4; have hz4 : w.heap.size + 1 < w4.heap.size := Nat.lt_of_lt_of_le hz3 hb4.size; have hy4 : w.heap.size < w4.heap.size := by omega)
    | (go_at_call_of 25 (Value.int .i64 2); (with_reducible refine (H25.out _).mono ?_); rintro e w5 ⟨rfl, hb5⟩; obtain ⟨hc5, hf5⟩ := bcell hb5; have hz5 : w.heap.size + 1 < w5.heap.size := Nat.lt_of_lt_of_le hz4 hb5.size; have hy5 : w.heap.size < w5.heap.size := by omega)
    | (go_at_call_of 25 (Value.int .i64 3); (with_reducible refine (H26.out _).mono ?_); rintro e w6 ⟨rfl, hb6⟩; obtain ⟨hc6, hf6⟩ := bcell hb6; have hz6 : w.heap.size + 1 < w6.heap.size := Nat.lt_of_lt_of_le hz5 hb6.size; have hy6 : w.heap.size < w6.heap.size := by omega)
    | (go_at_call_of 25 (Value.int .i64 4); (with_reducible refine (H27.out _).mono ?_); rintro e w7 ⟨rfl, hb7⟩; obtain ⟨hc7, hf7⟩ := bcell hb7; have hz7 : w.heap.size + 1 < w7.heap.size := Nat.lt_of_lt_of_le hz6 hb7.size; have hy7 : w.heap.size < w7.heap.size := by omega))
  go_ret
  exact ⟨by first | rfl | (simp; done), (below_step (below_step (below_step (below_step (below_step (below_step (below_step (below_alloc (below_alloc (Below.refl _ _) _) _) hb1) hb2) hb3) hb4) hb5) hb6) hb7)⟩

theorem what_tells {H S a x y z : Int} (hH : 28 ≤ H) (h : goWhat H S a = (x, y, z)) : GoFact H S a (x, y, z) := by
  have := go_fact H S a hH
  rw [h] at this
  exact this
theorem findR_place {q S Z : Int} (L : Lay q S Z) (k off cnt b c : Int) (hk : (k = 2 ∧ off = 2 ∧ cnt = 2) ∨ (k = 3 ∧ off = 4 ∧ cnt = 24) ∨ (k = 4 ∧ off = 28 ∧ cnt = 2 * q + 120))
    (hb : b = 0 ∨ b = 1) (hc : 0 ≤ c) (hc2 : c < cnt) : FindR (2 * q + 148) S k b c (b * (2 * q + 148) + off + c) := by
  have hs := L.s
  have hlo := L.lo
  have hoff : 2 ≤ off ∧ off + cnt ≤ 2 * q + 148 := by omega
  have hm : b * (2 * q + 148) = 0 ∧ b = 0 ∨ b * (2 * q + 148) = 2 * q + 148 ∧ b = 1 := by rcases hb with rfl | rfl <;> omega
  generalize hbm : b * (2 * q + 148) = m at *
  right
  refine ⟨by omega, by omega, ?_, ?_⟩
  · rcases hx : goWhat (2 * q + 148) S (m + off + c) with ⟨x, y, z⟩
    have f := what_tells (by omega) hx
    unfold GoFact at f
    dsimp only at f
    rcases f with ⟨f, -⟩ | ⟨-, -, f⟩
    · omega
    rcases f with ⟨-, -, -, f⟩ | ⟨fb, f1, f2, f⟩
    · omega
    have : y = b := by rcases fb with rfl | rfl <;> omega
    subst this
    rw [hbm] at f f1 f2
    have : x = k ∧ z = c := by omega
    rw [this.1, this.2]
  · intro a h1 h2 h3
    have f := what_tells (by omega) h3
    unfold GoFact at f
    dsimp only at f
    rw [hbm] at f
    omega
theorem findR_no {q S Z : Int} (L : Lay q S Z) (k off cnt b c : Int) (hk : (k = 2 ∧ off = 2 ∧ cnt = 2) ∨ (k = 3 ∧ off = 4 ∧ cnt = 24) ∨ (k = 4 ∧ off = 28 ∧ cnt = 2 * q + 120))
    (hn : ¬ (b = 0 ∨ b = 1) ∨ c < 0 ∨ cnt ≤ c) : FindR (2 * q + 148) S k b c (-1) := by
  have hs := L.s
  have hlo := L.lo
  left
  refine ⟨rfl, fun a h1 h2 h3 => ?_⟩
  have f := what_tells (by omega) h3
  unfold GoFact at f
  dsimp only at f
  rcases f with ⟨f, -⟩ | ⟨-, -, f⟩
  · omega
  rcases f with ⟨f, -⟩ | ⟨fb, f1, f2, f⟩
  · omega
  generalize b * (2 * q + 148) = m at *
  rcases hn with hn | hn
  · exact hn fb
  · omega

theorem right_bad {g0 g1 g2 g3 g4 g5 half : Int} (h : ¬ (half = 0 ∨ half = 1)) (k : Nat) : geom_right.f k g0 g1 g2 g3 g4 g5 half = some false := by
  unfold geom_right.f
  rw [if_neg (by omega), if_neg (by omega)]
theorem right_none {g0 g1 g2 g3 g4 g5 half : Int} (N : NoLay g0 g1 g2 g3 g4 g5) (hf : -9223372036854775808 ≤ g5 ∧ g5 ≤ 9223372036854775807) (k : Nat) : geom_right.f (k + 1) g0 g1 g2 g3 g4 g5 half = some false := by
  unfold geom_right.f
  rw [gq_none N hf]
  split
  · simp
  · split <;> simp
theorem root_no {g0 g1 g2 g3 g4 g5 n half : Int} (h : geom_right.f 2 g0 g1 g2 g3 g4 g5 half = some false) : geom_RootAt.f 2 g0 g1 g2 g3 g4 g5 n half = some (0, 1) := by
  unfold geom_RootAt.f
  rw [h]
  split
  · rfl
  · simp
theorem root_neg {g0 g1 g2 g3 g4 g5 n half : Int} (h : n < 0) : geom_RootAt.f 2 g0 g1 g2 g3 g4 g5 n half = some (0, 1) := by
  unfold geom_RootAt.f
  rw [if_pos h]
theorem log_no {g0 g1 g2 g3 g4 g5 n half : Int} (h : n < 0 ∨ 24 ≤ n ∨ geom_right.f 2 g0 g1 g2 g3 g4 g5 half = some false) : geom_LogAt.f 2 g0 g1 g2 g3 g4 g5 n half = some (0, 1) := by
  unfold geom_LogAt.f
  by_cases h1 : n < 0
  · rw [if_pos h1]
  rw [if_neg h1]
  by_cases h2 : n ≥ 24
  · rw [if_pos h2]
  rw [if_neg h2]
  rcases h with h | h | h
  · omega
  · omega
  · rw [h]; simp
theorem region_no {g0 g1 g2 g3 g4 g5 half : Int} (h : geom_right.f 2 g0 g1 g2 g3 g4 g5 half = some false) : geom_RegionAt.f 2 g0 g1 g2 g3 g4 g5 half = some (0, 1) := by
  unfold geom_RegionAt.f
  rw [h]
  simp
theorem root_yes {q S Z : Int} (L : Lay q S Z) {n half : Int} (hn : 0 ≤ n) (hb : half = 0 ∨ half = 1) : geom_RootAt.f 2 S (2 * q + 148) 2 4 28 Z n half = some (half * (2 * q + 148) + 2 + n % 2, 0) := by
  obtain ⟨h1, h2, rfl, rfl⟩ := L
  unfold geom_RootAt.f
  rw [if_neg (by omega), go_right h1 h2 1 half hb]
  simp only [Option.bind_some, if_true]
  have e : Int.tmod n 2 = n % 2 := Int.tmod_eq_emod_of_nonneg hn
  have e2 : wrap64 (wrap64 (wrap64 (half * (2 * q + 148)) + 2) + Int.tmod n 2) = half * (2 * q + 148) + 2 + n % 2 := by
    rw [e]
    rcases hb with rfl | rfl <;> unfold wrap64 <;> omega
  rw [e2]
def I64 (n : Int) : Prop := -9223372036854775808 ≤ n ∧ n ≤ 9223372036854775807

/-- what At answers of a layout: some answer, whatever is asked -/
theorem at_some {q S Z : Int} (L : Lay q S Z) (k h i : Int) : ∃ x e : Int, ∀ w, Calls Try.prog 25 #[.agg #[.int .i64 S, .int .i64 (2 * q + 148), .int .i64 2, .int .i64 4, .int .i64 28, .int .i64 Z], .int .i64 k, .int .i64 h, .int .i64 i] w fun er w' => er = .returned (.tuple #[.int .i64 x, .int .i64 e]) ∧ Below w.heap.size w w' := by
  obtain ⟨r, hr⟩ := find_some (2 * q + 148) S k h i
  rcases Int.lt_or_le r 0 with h0 | h0
  · exact ⟨0, 1, fun w => at_miss L k h i r hr h0 w⟩
  · exact ⟨r, 0, fun w => at_hit L k h i r hr h0 w⟩

theorem places_all (g0 g1 g2 g3 g4 g5 n half : Int) (w : World) (hf : -9223372036854775808 ≤ g5 ∧ g5 ≤ 9223372036854775807) :
    Calls Try.prog 5 #[.agg #[.int .i64 g0, .int .i64 g1, .int .i64 g2, .int .i64 g3, .int .i64 g4, .int .i64 g5], .agg #[.int .i64 n, .int .i64 half]] w fun e w' => e = .returned (.bool true) ∧ Below w.heap.size w w' := by
  by_cases hL : ∃ q, 4 ≤ q ∧ q ≤ 900 ∧ 4 * q + 316 = g0 ∧ 2 * q + 148 = g1 ∧ 2 = g2 ∧ 4 = g3 ∧ 28 = g4 ∧ 2 * q + 120 = g5
  rotate_left
  · have NL : NoLay g0 g1 g2 g3 g4 g5 := fun k a b c => hL ⟨k, a, b, c⟩
    have r0 := right_none (half := half) NL hf 1
    by_cases hn : n < 0
    · exact places_neg _ _ _ _ _ _ n half 0 0 0 1 0 1 0 1 w hn (fun w => geom_RootAt.calls 2 _ _ _ _ _ _ _ _ _ _ w (root_no r0)) (fun w => geom_LogAt.calls 2 _ _ _ _ _ _ _ _ _ _ w (log_no (.inr (.inr r0)))) (fun w => geom_RegionAt.calls 2 _ _ _ _ _ _ _ _ _ w (region_no r0))
        (fun w => at_none NL _ _ _ w) (fun w => at_none NL _ _ _ w) (fun w => at_none NL _ _ _ w)
    · exact places_pos _ _ _ _ _ _ n half 0 1 0 1 0 1 0 0 w (by omega) (fun w => geom_RootAt.calls 2 _ _ _ _ _ _ _ _ _ _ w (root_no r0)) (fun w => geom_LogAt.calls 2 _ _ _ _ _ _ _ _ _ _ w (log_no (.inr (.inr r0)))) (fun w => geom_RegionAt.calls 2 _ _ _ _ _ _ _ _ _ w (region_no r0))
        (fun w => at_none NL _ _ _ w) (fun w => at_none NL _ _ _ w) (fun w => at_none NL _ _ _ w)
  obtain ⟨q, h1, h2, rfl, rfl, rfl, rfl, rfl, rfl⟩ := hL
  have L : Lay q (4 * q + 316) (2 * q + 120) := ⟨h1, h2, rfl, rfl⟩
  have k2 : (((2 : Int) = 2 ∧ (2 : Int) = 2 ∧ (2 : Int) = 2) ∨ ((2 : Int) = 3 ∧ (2 : Int) = 4 ∧ (2 : Int) = 24) ∨ ((2 : Int) = 4 ∧ (2 : Int) = 28 ∧ (2 : Int) = 2 * q + 120)) := by omega
  have k3 : (((3 : Int) = 2 ∧ (4 : Int) = 2 ∧ (24 : Int) = 2) ∨ ((3 : Int) = 3 ∧ (4 : Int) = 4 ∧ (24 : Int) = 24) ∨ ((3 : Int) = 4 ∧ (4 : Int) = 28 ∧ (24 : Int) = 2 * q + 120)) := by omega
  have k4 : (((4 : Int) = 2 ∧ (28 : Int) = 2 ∧ (2 * q + 120) = 2) ∨ ((4 : Int) = 3 ∧ (28 : Int) = 4 ∧ (2 * q + 120) = 24) ∨ ((4 : Int) = 4 ∧ (28 : Int) = 28 ∧ (2 * q + 120) = 2 * q + 120)) := by omega
  by_cases hb : half = 0 ∨ half = 1
  rotate_left
  · have r0 := right_bad (g0 := 4 * q + 316) (g1 := 2 * q + 148) (g2 := 2) (g3 := 4) (g4 := 28) (g5 := 2 * q + 120) hb 2
    have hlog : ∀ w, Calls Try.prog 25 #[.agg #[.int .i64 (4 * q + 316), .int .i64 (2 * q + 148), .int .i64 2, .int .i64 4, .int .i64 28, .int .i64 (2 * q + 120)], .int .i64 3, .int .i64 half, .int .i64 n] w fun er w' => er = .returned (.tuple #[.int .i64 0, .int .i64 1]) ∧ Below w.heap.size w w' :=
      fun w => at_miss L _ _ _ _ (findR_no L 3 4 24 half n k3 (.inl hb)) (by omega) w
    have hreg : ∀ w, Calls Try.prog 25 #[.agg #[.int .i64 (4 * q + 316), .int .i64 (2 * q + 148), .int .i64 2, .int .i64 4, .int .i64 28, .int .i64 (2 * q + 120)], .int .i64 4, .int .i64 half, .int .i64 0] w fun er w' => er = .returned (.tuple #[.int .i64 0, .int .i64 1]) ∧ Below w.heap.size w w' :=
      fun w => at_miss L _ _ _ _ (findR_no L 4 28 (2 * q + 120) half 0 k4 (.inl hb)) (by omega) w
    by_cases hn : n < 0
    · obtain ⟨x0, i0, hx⟩ := at_some L 2 half (n.tmod 2)
      exact places_neg _ _ _ _ _ _ n half 0 0 0 1 0 1 x0 i0 w hn (fun w => geom_RootAt.calls 2 _ _ _ _ _ _ _ _ _ _ w (root_no r0)) (fun w => geom_LogAt.calls 2 _ _ _ _ _ _ _ _ _ _ w (log_no (.inr (.inr r0)))) (fun w => geom_RegionAt.calls 2 _ _ _ _ _ _ _ _ _ w (region_no r0)) hx hlog hreg
    · exact places_pos _ _ _ _ _ _ n half 0 1 0 1 0 1 0 0 w (by omega) (fun w => geom_RootAt.calls 2 _ _ _ _ _ _ _ _ _ _ w (root_no r0)) (fun w => geom_LogAt.calls 2 _ _ _ _ _ _ _ _ _ _ w (log_no (.inr (.inr r0)))) (fun w => geom_RegionAt.calls 2 _ _ _ _ _ _ _ _ _ w (region_no r0))
        (fun w => at_miss L _ _ _ _ (findR_no L 2 2 2 half (n % 2) k2 (.inl hb)) (by omega) w) hlog hreg
  have hm : half * (2 * q + 148) = 0 ∨ half * (2 * q + 148) = 2 * q + 148 := by rcases hb with rfl | rfl <;> omega
  have hreg : ∀ w, Calls Try.prog 25 #[.agg #[.int .i64 (4 * q + 316), .int .i64 (2 * q + 148), .int .i64 2, .int .i64 4, .int .i64 28, .int .i64 (2 * q + 120)], .int .i64 4, .int .i64 half, .int .i64 0] w fun er w' => er = .returned (.tuple #[.int .i64 (half * (2 * q + 148) + 28), .int .i64 0]) ∧ Below w.heap.size w w' := fun w => by
    have := at_hit L _ _ _ _ (findR_place L 4 28 (2 * q + 120) half 0 k4 hb (by omega) (by omega)) (by omega) w
    rw [Int.add_zero] at this
    exact this
  have greg := fun w => geom_RegionAt.calls 2 _ _ _ _ _ _ _ _ _ w (go_regionAt h1 h2 1 half hb)
  have hlogs : ∃ b f : Int, (∀ w, Calls Try.prog 25 #[.agg #[.int .i64 (4 * q + 316), .int .i64 (2 * q + 148), .int .i64 2, .int .i64 4, .int .i64 28, .int .i64 (2 * q + 120)], .int .i64 3, .int .i64 half, .int .i64 n] w fun er w' => er = .returned (.tuple #[.int .i64 b, .int .i64 f]) ∧ Below w.heap.size w w') ∧
      (∀ w, Calls Try.prog 23 #[.agg #[.int .i64 (4 * q + 316), .int .i64 (2 * q + 148), .int .i64 2, .int .i64 4, .int .i64 28, .int .i64 (2 * q + 120)], .int .i64 n, .int .i64 half] w fun er w' => er = .returned (.tuple #[.int .i64 b, .int .i64 f]) ∧ Below w.heap.size w w') := by
    by_cases hr : 0 ≤ n ∧ n < 24
    · exact ⟨_, _, fun w => at_hit L _ _ _ _ (findR_place L 3 4 24 half n k3 hb hr.1 hr.2) (by omega) w, fun w => geom_LogAt.calls 2 _ _ _ _ _ _ _ _ _ _ w (go_logAt h1 h2 1 n half hb hr.1 hr.2)⟩
    · exact ⟨0, 1, fun w => at_miss L _ _ _ _ (findR_no L 3 4 24 half n k3 (.inr (by omega))) (by omega) w, fun w => geom_LogAt.calls 2 _ _ _ _ _ _ _ _ _ _ w (log_no (by omega))⟩
  obtain ⟨b, f, hl25, hl23⟩ := hlogs
  by_cases hn : n < 0
  · obtain ⟨x0, i0, hx⟩ := at_some L 2 half (n.tmod 2)
    exact places_neg _ _ _ _ _ _ n half 0 0 b f (half * (2 * q + 148) + 28) 0 x0 i0 w hn (fun w => geom_RootAt.calls 2 _ _ _ _ _ _ _ _ _ _ w (root_neg hn)) hl23 greg hx hl25 hreg
  · exact places_pos _ _ _ _ _ _ n half (half * (2 * q + 148) + 2 + n % 2) 0 b f (half * (2 * q + 148) + 28) 0 0 0 w (by omega) (fun w => geom_RootAt.calls 2 _ _ _ _ _ _ _ _ _ _ w (root_yes L (by omega) hb)) hl23 greg
      (fun w => at_hit L _ _ _ _ (findR_place L 2 2 2 half (n % 2) k2 hb (by omega) (by omega)) (by omega) w) hl25 hreg

end Go.Proofs.Ytkajbhkhecoccaa.GeoPlaces
