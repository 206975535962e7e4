/- Each sector of any layout that geom makes is of one kind, half and number, and where things are told to stand they do: the walk of the law GeomOnce. No condition: for all three whole numbers. -/
import Derived.Test.YtkajbhkhecoccaaGeoWhat
import Derived.Deep.RegionWith
set_option linter.unusedVariables false
set_option linter.unusedSimpArgs false
namespace Go.Proofs.Ytkajbhkhecoccaa.GeoOnce
open Go.RowKit Go.Proofs.Ytkajbhkhecoccaa.PGeomOnce Go.Proofs.YtkajbhkhecoccaaW.PrintWords Go.Proofs.YtkajbhkhecoccaaW.PrintLast Go.Proofs.YtkajbhkhecoccaaW.PrintMore Go.Proofs.Ytkajbhkhecoccaa.GeoWhat

theorem retb {a b : Bool} (h : a = b) : Ending.returned (.bool a) = .returned (.bool b) := by rw [h]

set_option maxHeartbeats 2000000 in
set_option maxRecDepth 100000 in
theorem once_bad (q a o : Int) (w : World) (hq : geom_ForQuota.f q = some (0, 0, 0, 0, 0, 0, 1)) :
    Calls Try.prog 11 #[.int .i64 q, .int .i64 a, .int .i64 o] w fun e w' => e = .returned (.bool true) ∧ Below w.heap.size w w' := by
  have HA := Lib.hid go_alive
  have HQ := Lib.hid hq
  clear hq
  go_enter Try.func11, Try.ntmps11
  go_wp2_with (first
    | (go_at_call 17; (with_reducible refine (lazaretlaw08_alive.calls 4 true _ HA.out).mono ?_); rintro e w1 ⟨rfl, hb1⟩)
    | (go_at_call 18; (with_reducible refine (geom_ForQuota.calls q 0 0 0 0 0 0 1 _ HQ.out).mono ?_); rintro e w2 ⟨rfl, hb2⟩))
  go_ret
  exact ⟨rfl, below_alloc (below_step hb1 hb2) _⟩

/-- S and Z are the layout's, of the quota q -/
structure Lay (q S Z : Int) : Prop where
  lo : 4 ≤ q
  hi : q ≤ 900
  s : 4 * q + 316 = S
  z : 2 * q + 120 = Z

theorem quota_named {q S Z : Int} (h : Lay q S Z) : geom_ForQuota.f q = some (S, 2 * q + 148, 2, 4, 28, Z, 0) := by
  obtain ⟨h1, h2, rfl, rfl⟩ := h
  exact go_fq_good h1 h2
theorem what_named {q S Z : Int} (L : Lay q S Z) (a x y z : Int) (w : World) (h : goWhat (2 * q + 148) S a = (x, y, z)) :
    Calls Try.prog 30 #[.agg #[.int .i64 S, .int .i64 (2 * q + 148), .int .i64 2, .int .i64 4, .int .i64 28, .int .i64 Z], .int .i64 a] w fun e w' =>
      e = .returned (.tuple #[.int .i64 x, .int .i64 y, .int .i64 z]) ∧ Below w.heap.size w w' := by
  obtain ⟨h1, h2, rfl, rfl⟩ := L
  have := what_calls h1 h2 a w
  rw [h] at this
  exact this
theorem rootAt_named {q S Z : Int} (L : Lay q S Z) (n b r : Int) (w : World) (hb : b = 0 ∨ b = 1) (hn : 0 ≤ n) (hn' : n < 2) (hr : b * (2 * q + 148) + 2 + n = r) :
    Calls Try.prog 22 #[.agg #[.int .i64 S, .int .i64 (2 * q + 148), .int .i64 2, .int .i64 4, .int .i64 28, .int .i64 Z], .int .i64 n, .int .i64 b] w fun e w' =>
      e = .returned (.tuple #[.int .i64 r, .int .i64 0]) ∧ Below w.heap.size w w' := by
  obtain ⟨h1, h2, rfl, rfl⟩ := L
  subst hr
  exact geom_RootAt.calls 2 _ _ _ _ _ _ _ _ _ _ w (go_rootAt h1 h2 1 n b hb hn hn')
theorem logAt_named {q S Z : Int} (L : Lay q S Z) (n b r : Int) (w : World) (hb : b = 0 ∨ b = 1) (hn : 0 ≤ n) (hn' : n < 24) (hr : b * (2 * q + 148) + 4 + n = r) :
    Calls Try.prog 23 #[.agg #[.int .i64 S, .int .i64 (2 * q + 148), .int .i64 2, .int .i64 4, .int .i64 28, .int .i64 Z], .int .i64 n, .int .i64 b] w fun e w' =>
      e = .returned (.tuple #[.int .i64 r, .int .i64 0]) ∧ Below w.heap.size w w' := by
  obtain ⟨h1, h2, rfl, rfl⟩ := L
  subst hr
  exact geom_LogAt.calls 2 _ _ _ _ _ _ _ _ _ _ w (go_logAt h1 h2 1 n b hb hn hn')
theorem regionAt_named {q S Z : Int} (L : Lay q S Z) (b r : Int) (w : World) (hb : b = 0 ∨ b = 1) (hr : b * (2 * q + 148) + 28 = r) :
    Calls Try.prog 24 #[.agg #[.int .i64 S, .int .i64 (2 * q + 148), .int .i64 2, .int .i64 4, .int .i64 28, .int .i64 Z], .int .i64 b] w fun e w' =>
      e = .returned (.tuple #[.int .i64 r, .int .i64 0]) ∧ Below w.heap.size w w' := by
  obtain ⟨h1, h2, rfl, rfl⟩ := L
  subst hr
  exact geom_RegionAt.calls 2 _ _ _ _ _ _ _ _ _ w (go_regionAt h1 h2 1 b hb)

set_option maxHeartbeats 4000000 in
set_option maxRecDepth 100000 in
theorem once_neg (q a o S Z x1 y1 z1 : Int) (w : World) (L : Lay q S Z) (ha : a < 0) (hx : goWhat (2 * q + 148) S a = (0, 0, 0)) (hy : goWhat (2 * q + 148) S o = (x1, y1, z1)) :
    Calls Try.prog 11 #[.int .i64 q, .int .i64 a, .int .i64 o] w fun e w' => e = .returned (.bool true) ∧ Below w.heap.size w w' := by
  have HA := Lib.hid go_alive
  have HL := Lib.hid L
  have HX := Lib.hid hx
  have HY := Lib.hid hy
  clear L hx hy
  have c0 : decide (a < 0) = true := decide_eq_true ha
  go_enter Try.func11, Try.ntmps11
  go_wp2_with (first
    | (go_at_call 17; (with_reducible refine (lazaretlaw08_alive.calls 4 true _ HA.out).mono ?_); rintro e w1 ⟨rfl, hb1⟩)
    | (go_at_call 18; (with_reducible refine (geom_ForQuota.calls q S (2 * q + 148) 2 4 28 Z 0 _ (quota_named HL.out)).mono ?_); rintro e w2 ⟨rfl, hb2⟩)
    | (go_at_call_of 30 (Value.int .i64 a); ((with_reducible refine (what_named HL.out a 0 0 0 _ HX.out).mono ?_)); rintro e w3 ⟨rfl, hb3⟩; obtain ⟨hc3, hf3⟩ := bcell hb3; have hz3 : w2.heap.size < w3.heap.size := by { have := hb3.size; simp at this; omega })
    | (go_at_call_of 30 (Value.int .i64 o); ((with_reducible refine (what_named HL.out o x1 y1 z1 _ HY.out).mono ?_)); rintro e w4 ⟨rfl, hb4⟩; obtain ⟨hc4, hf4⟩ := bcell hb4; have hz4 : w2.heap.size < w4.heap.size := by { have := hb4.size; omega }))
  go_ret
  exact ⟨rfl, below_step (below_step (below_alloc (below_step hb1 hb2) _) hb3) hb4⟩

set_option maxHeartbeats 4000000 in
set_option maxRecDepth 100000 in
theorem once_far (q a o S Z x1 y1 z1 : Int) (w : World) (L : Lay q S Z) (ha : 0 ≤ a) (ha2 : S ≤ a) (hx : goWhat (2 * q + 148) S a = (0, 0, 0)) (hy : goWhat (2 * q + 148) S o = (x1, y1, z1)) :
    Calls Try.prog 11 #[.int .i64 q, .int .i64 a, .int .i64 o] w fun e w' => e = .returned (.bool true) ∧ Below w.heap.size w w' := by
  have HA := Lib.hid go_alive
  have HL := Lib.hid L
  have HX := Lib.hid hx
  have HY := Lib.hid hy
  clear L hx hy
  have c0 : decide (a < 0) = false := decide_eq_false (by omega)
  have c1 : decide (S ≤ a) = true := decide_eq_true ha2
  go_enter Try.func11, Try.ntmps11
  go_wp2_with (first
    | (go_at_call 17; (with_reducible refine (lazaretlaw08_alive.calls 4 true _ HA.out).mono ?_); rintro e w1 ⟨rfl, hb1⟩)
    | (go_at_call 18; (with_reducible refine (geom_ForQuota.calls q S (2 * q + 148) 2 4 28 Z 0 _ (quota_named HL.out)).mono ?_); rintro e w2 ⟨rfl, hb2⟩)
    | (go_at_call_of 30 (Value.int .i64 a); ((with_reducible refine (what_named HL.out a 0 0 0 _ HX.out).mono ?_)); rintro e w3 ⟨rfl, hb3⟩; obtain ⟨hc3, hf3⟩ := bcell hb3; have hz3 : w2.heap.size < w3.heap.size := by { have := hb3.size; simp at this; omega })
    | (go_at_call_of 30 (Value.int .i64 o); ((with_reducible refine (what_named HL.out o x1 y1 z1 _ HY.out).mono ?_)); rintro e w4 ⟨rfl, hb4⟩; obtain ⟨hc4, hf4⟩ := bcell hb4; have hz4 : w2.heap.size < w4.heap.size := by { have := hb4.size; omega }))
  go_ret
  exact ⟨rfl, below_step (below_step (below_alloc (below_step hb1 hb2) _) hb3) hb4⟩

set_option maxHeartbeats 4000000 in
set_option maxRecDepth 100000 in
theorem once_1_same (q a o S Z y0 z0 x1 y1 z1 : Int) (w : World) (L : Lay q S Z) (ha : 0 ≤ a) (ha2 : a < S) (hb : 0 ≤ y0) (hb' : y0 ≤ 1)  (he : a = o) (hx : goWhat (2 * q + 148) S a = (1, y0, z0)) (hy : goWhat (2 * q + 148) S o = (x1, y1, z1)) :
    Calls Try.prog 11 #[.int .i64 q, .int .i64 a, .int .i64 o] w fun e w' => e = .returned (.bool true) ∧ Below w.heap.size w w' := by
  have HA := Lib.hid go_alive
  have HL := Lib.hid L
  have HX := Lib.hid hx
  have HY := Lib.hid hy
  clear L hx hy
  have c0 : decide (a < 0) = false := decide_eq_false (by omega)
  have c1 : decide (S ≤ a) = false := decide_eq_false (by omega)
  have c2 : decide (y0 < 0) = false := decide_eq_false (by omega)
  have c3 : decide (1 < y0) = false := decide_eq_false (by omega)
  have c4 : (a != o) = false := bne_eq_false_iff_eq.mpr he
  have HB : Hid (y0 = 0 ∨ y0 = 1) := Lib.hid (by omega)
  clear he
  go_enter Try.func11, Try.ntmps11
  go_wp2_with (first
    | (go_at_call 17; (with_reducible refine (lazaretlaw08_alive.calls 4 true _ HA.out).mono ?_); rintro e w1 ⟨rfl, hb1⟩)
    | (go_at_call 18; (with_reducible refine (geom_ForQuota.calls q S (2 * q + 148) 2 4 28 Z 0 _ (quota_named HL.out)).mono ?_); rintro e w2 ⟨rfl, hb2⟩)
    | (go_at_call_of 30 (Value.int .i64 a); ((with_reducible refine (what_named HL.out a 1 y0 z0 _ HX.out).mono ?_)); rintro e w3 ⟨rfl, hb3⟩; obtain ⟨hc3, hf3⟩ := bcell hb3; have hz3 : w2.heap.size < w3.heap.size := by { have := hb3.size; simp at this; omega })
    | (go_at_call_of 30 (Value.int .i64 o); ((with_reducible refine (what_named HL.out o x1 y1 z1 _ HY.out).mono ?_)); rintro e w4 ⟨rfl, hb4⟩; obtain ⟨hc4, hf4⟩ := bcell hb4; have hz4 : w2.heap.size < w4.heap.size := by { have := hb4.size; omega }))
  go_ret
  exact ⟨(by first | rfl | exact retb (by simp; omega) | exact retb (by simp)), below_step (below_step (below_alloc (below_step hb1 hb2) _) hb3) hb4⟩

set_option maxHeartbeats 4000000 in
set_option maxRecDepth 100000 in
theorem once_1_kind (q a o S Z y0 z0 x1 y1 z1 : Int) (w : World) (L : Lay q S Z) (ha : 0 ≤ a) (ha2 : a < S) (hb : 0 ≤ y0) (hb' : y0 ≤ 1)  (he : a ≠ o) (hk : 1 ≠ x1) (hx : goWhat (2 * q + 148) S a = (1, y0, z0)) (hy : goWhat (2 * q + 148) S o = (x1, y1, z1)) :
    Calls Try.prog 11 #[.int .i64 q, .int .i64 a, .int .i64 o] w fun e w' => e = .returned (.bool true) ∧ Below w.heap.size w w' := by
  have HA := Lib.hid go_alive
  have HL := Lib.hid L
  have HX := Lib.hid hx
  have HY := Lib.hid hy
  clear L hx hy
  have c0 : decide (a < 0) = false := decide_eq_false (by omega)
  have c1 : decide (S ≤ a) = false := decide_eq_false (by omega)
  have c2 : decide (y0 < 0) = false := decide_eq_false (by omega)
  have c3 : decide (1 < y0) = false := decide_eq_false (by omega)
  have c4 : (a != o) = true := bne_iff_ne.mpr he
  have c5 : ((1 : Int) == x1) = false := by simp; omega
  have HB : Hid (y0 = 0 ∨ y0 = 1) := Lib.hid (by omega)
  clear he hk
  go_enter Try.func11, Try.ntmps11
  go_wp2_with (first
    | (go_at_call 17; (with_reducible refine (lazaretlaw08_alive.calls 4 true _ HA.out).mono ?_); rintro e w1 ⟨rfl, hb1⟩)
    | (go_at_call 18; (with_reducible refine (geom_ForQuota.calls q S (2 * q + 148) 2 4 28 Z 0 _ (quota_named HL.out)).mono ?_); rintro e w2 ⟨rfl, hb2⟩)
    | (go_at_call_of 30 (Value.int .i64 a); ((with_reducible refine (what_named HL.out a 1 y0 z0 _ HX.out).mono ?_)); rintro e w3 ⟨rfl, hb3⟩; obtain ⟨hc3, hf3⟩ := bcell hb3; have hz3 : w2.heap.size < w3.heap.size := by { have := hb3.size; simp at this; omega })
    | (go_at_call_of 30 (Value.int .i64 o); ((with_reducible refine (what_named HL.out o x1 y1 z1 _ HY.out).mono ?_)); rintro e w4 ⟨rfl, hb4⟩; obtain ⟨hc4, hf4⟩ := bcell hb4; have hz4 : w2.heap.size < w4.heap.size := by { have := hb4.size; omega }))
  go_ret
  exact ⟨(by first | rfl | exact retb (by simp; omega) | exact retb (by simp)), below_step (below_step (below_alloc (below_step hb1 hb2) _) hb3) hb4⟩

set_option maxHeartbeats 4000000 in
set_option maxRecDepth 100000 in
theorem once_1_half (q a o S Z y0 z0 x1 y1 z1 : Int) (w : World) (L : Lay q S Z) (ha : 0 ≤ a) (ha2 : a < S) (hb : 0 ≤ y0) (hb' : y0 ≤ 1)  (he : a ≠ o) (hk : 1 = x1) (hh : y0 ≠ y1) (hx : goWhat (2 * q + 148) S a = (1, y0, z0)) (hy : goWhat (2 * q + 148) S o = (x1, y1, z1)) :
    Calls Try.prog 11 #[.int .i64 q, .int .i64 a, .int .i64 o] w fun e w' => e = .returned (.bool true) ∧ Below w.heap.size w w' := by
  have HA := Lib.hid go_alive
  have HL := Lib.hid L
  have HX := Lib.hid hx
  have HY := Lib.hid hy
  clear L hx hy
  have c0 : decide (a < 0) = false := decide_eq_false (by omega)
  have c1 : decide (S ≤ a) = false := decide_eq_false (by omega)
  have c2 : decide (y0 < 0) = false := decide_eq_false (by omega)
  have c3 : decide (1 < y0) = false := decide_eq_false (by omega)
  have c4 : (a != o) = true := bne_iff_ne.mpr he
  have c5 : ((1 : Int) == x1) = true := by simp; omega
  have c6 : (y0 == y1) = false := by simp; omega
  have HB : Hid (y0 = 0 ∨ y0 = 1) := Lib.hid (by omega)
  clear he hk hh
  go_enter Try.func11, Try.ntmps11
  go_wp2_with (first
    | (go_at_call 17; (with_reducible refine (lazaretlaw08_alive.calls 4 true _ HA.out).mono ?_); rintro e w1 ⟨rfl, hb1⟩)
    | (go_at_call 18; (with_reducible refine (geom_ForQuota.calls q S (2 * q + 148) 2 4 28 Z 0 _ (quota_named HL.out)).mono ?_); rintro e w2 ⟨rfl, hb2⟩)
    | (go_at_call_of 30 (Value.int .i64 a); ((with_reducible refine (what_named HL.out a 1 y0 z0 _ HX.out).mono ?_)); rintro e w3 ⟨rfl, hb3⟩; obtain ⟨hc3, hf3⟩ := bcell hb3; have hz3 : w2.heap.size < w3.heap.size := by { have := hb3.size; simp at this; omega })
    | (go_at_call_of 30 (Value.int .i64 o); ((with_reducible refine (what_named HL.out o x1 y1 z1 _ HY.out).mono ?_)); rintro e w4 ⟨rfl, hb4⟩; obtain ⟨hc4, hf4⟩ := bcell hb4; have hz4 : w2.heap.size < w4.heap.size := by { have := hb4.size; omega }))
  go_ret
  exact ⟨(by first | rfl | exact retb (by simp; omega) | exact retb (by simp)), below_step (below_step (below_alloc (below_step hb1 hb2) _) hb3) hb4⟩

set_option maxHeartbeats 4000000 in
set_option maxRecDepth 100000 in
theorem once_1_place (q a o S Z y0 z0 x1 y1 z1 : Int) (w : World) (L : Lay q S Z) (ha : 0 ≤ a) (ha2 : a < S) (hb : 0 ≤ y0) (hb' : y0 ≤ 1)  (he : a ≠ o) (hk : 1 = x1) (hh : y0 = y1) (hp : z0 ≠ z1) (hx : goWhat (2 * q + 148) S a = (1, y0, z0)) (hy : goWhat (2 * q + 148) S o = (x1, y1, z1)) :
    Calls Try.prog 11 #[.int .i64 q, .int .i64 a, .int .i64 o] w fun e w' => e = .returned (.bool true) ∧ Below w.heap.size w w' := by
  have HA := Lib.hid go_alive
  have HL := Lib.hid L
  have HX := Lib.hid hx
  have HY := Lib.hid hy
  clear L hx hy
  have c0 : decide (a < 0) = false := decide_eq_false (by omega)
  have c1 : decide (S ≤ a) = false := decide_eq_false (by omega)
  have c2 : decide (y0 < 0) = false := decide_eq_false (by omega)
  have c3 : decide (1 < y0) = false := decide_eq_false (by omega)
  have c4 : (a != o) = true := bne_iff_ne.mpr he
  have c5 : ((1 : Int) == x1) = true := by simp; omega
  have c6 : (y0 == y1) = true := by simp; omega
  have c7 : (z0 == z1) = false := by simp; omega
  have HB : Hid (y0 = 0 ∨ y0 = 1) := Lib.hid (by omega)
  clear he hk hh hp
  go_enter Try.func11, Try.ntmps11
  go_wp2_with (first
    | (go_at_call 17; (with_reducible refine (lazaretlaw08_alive.calls 4 true _ HA.out).mono ?_); rintro e w1 ⟨rfl, hb1⟩)
    | (go_at_call 18; (with_reducible refine (geom_ForQuota.calls q S (2 * q + 148) 2 4 28 Z 0 _ (quota_named HL.out)).mono ?_); rintro e w2 ⟨rfl, hb2⟩)
    | (go_at_call_of 30 (Value.int .i64 a); ((with_reducible refine (what_named HL.out a 1 y0 z0 _ HX.out).mono ?_)); rintro e w3 ⟨rfl, hb3⟩; obtain ⟨hc3, hf3⟩ := bcell hb3; have hz3 : w2.heap.size < w3.heap.size := by { have := hb3.size; simp at this; omega })
    | (go_at_call_of 30 (Value.int .i64 o); ((with_reducible refine (what_named HL.out o x1 y1 z1 _ HY.out).mono ?_)); rintro e w4 ⟨rfl, hb4⟩; obtain ⟨hc4, hf4⟩ := bcell hb4; have hz4 : w2.heap.size < w4.heap.size := by { have := hb4.size; omega }))
  go_ret
  exact ⟨(by first | rfl | exact retb (by simp; omega) | exact retb (by simp)), below_step (below_step (below_alloc (below_step hb1 hb2) _) hb3) hb4⟩

set_option maxHeartbeats 4000000 in
set_option maxRecDepth 100000 in
theorem once_2_same (q a o S Z y0 z0 x1 y1 z1 : Int) (w : World) (L : Lay q S Z) (ha : 0 ≤ a) (ha2 : a < S) (hb : 0 ≤ y0) (hb' : y0 ≤ 1) (hr : y0 * (2 * q + 148) + 2 + z0 = a) (hz : 0 ≤ z0) (hz2 : z0 < 2) (he : a = o) (hx : goWhat (2 * q + 148) S a = (2, y0, z0)) (hy : goWhat (2 * q + 148) S o = (x1, y1, z1)) :
    Calls Try.prog 11 #[.int .i64 q, .int .i64 a, .int .i64 o] w fun e w' => e = .returned (.bool true) ∧ Below w.heap.size w w' := by
  have HA := Lib.hid go_alive
  have HL := Lib.hid L
  have HX := Lib.hid hx
  have HY := Lib.hid hy
  clear L hx hy
  have c0 : decide (a < 0) = false := decide_eq_false (by omega)
  have c1 : decide (S ≤ a) = false := decide_eq_false (by omega)
  have c2 : decide (y0 < 0) = false := decide_eq_false (by omega)
  have c3 : decide (1 < y0) = false := decide_eq_false (by omega)
  have c4 : (a != o) = false := bne_eq_false_iff_eq.mpr he
  have HB : Hid (y0 = 0 ∨ y0 = 1) := Lib.hid (by omega)
  have HR := Lib.hid hr
  clear hr
  clear he
  go_enter Try.func11, Try.ntmps11
  go_wp2_with (first
    | (go_at_call 17; (with_reducible refine (lazaretlaw08_alive.calls 4 true _ HA.out).mono ?_); rintro e w1 ⟨rfl, hb1⟩)
    | (go_at_call 18; (with_reducible refine (geom_ForQuota.calls q S (2 * q + 148) 2 4 28 Z 0 _ (quota_named HL.out)).mono ?_); rintro e w2 ⟨rfl, hb2⟩)
    | (go_at_call_of 30 (Value.int .i64 a); ((with_reducible refine (what_named HL.out a 2 y0 z0 _ HX.out).mono ?_)); rintro e w3 ⟨rfl, hb3⟩; obtain ⟨hc3, hf3⟩ := bcell hb3; have hz3 : w2.heap.size < w3.heap.size := by { have := hb3.size; simp at this; omega })
    | (go_at_call_of 30 (Value.int .i64 o); ((with_reducible refine (what_named HL.out o x1 y1 z1 _ HY.out).mono ?_)); rintro e w4 ⟨rfl, hb4⟩; obtain ⟨hc4, hf4⟩ := bcell hb4; have hz4 : w2.heap.size < w4.heap.size := by { have := hb4.size; omega })
    | (go_at_call 22; ((with_reducible refine (rootAt_named HL.out z0 y0 a _ HB.out hz hz2 HR.out).mono ?_)); rintro e w5 ⟨rfl, hb5⟩; obtain ⟨hc5, hf5⟩ := bcell hb5))
  go_ret
  exact ⟨(by first | rfl | exact retb (by simp; omega) | exact retb (by simp)), below_step (below_step (below_step (below_alloc (below_step hb1 hb2) _) hb3) hb4) hb5⟩

set_option maxHeartbeats 4000000 in
set_option maxRecDepth 100000 in
theorem once_2_kind (q a o S Z y0 z0 x1 y1 z1 : Int) (w : World) (L : Lay q S Z) (ha : 0 ≤ a) (ha2 : a < S) (hb : 0 ≤ y0) (hb' : y0 ≤ 1) (hr : y0 * (2 * q + 148) + 2 + z0 = a) (hz : 0 ≤ z0) (hz2 : z0 < 2) (he : a ≠ o) (hk : 2 ≠ x1) (hx : goWhat (2 * q + 148) S a = (2, y0, z0)) (hy : goWhat (2 * q + 148) S o = (x1, y1, z1)) :
    Calls Try.prog 11 #[.int .i64 q, .int .i64 a, .int .i64 o] w fun e w' => e = .returned (.bool true) ∧ Below w.heap.size w w' := by
  have HA := Lib.hid go_alive
  have HL := Lib.hid L
  have HX := Lib.hid hx
  have HY := Lib.hid hy
  clear L hx hy
  have c0 : decide (a < 0) = false := decide_eq_false (by omega)
  have c1 : decide (S ≤ a) = false := decide_eq_false (by omega)
  have c2 : decide (y0 < 0) = false := decide_eq_false (by omega)
  have c3 : decide (1 < y0) = false := decide_eq_false (by omega)
  have c4 : (a != o) = true := bne_iff_ne.mpr he
  have c5 : ((2 : Int) == x1) = false := by simp; omega
  have HB : Hid (y0 = 0 ∨ y0 = 1) := Lib.hid (by omega)
  have HR := Lib.hid hr
  clear hr
  clear he hk
  go_enter Try.func11, Try.ntmps11
  go_wp2_with (first
    | (go_at_call 17; (with_reducible refine (lazaretlaw08_alive.calls 4 true _ HA.out).mono ?_); rintro e w1 ⟨rfl, hb1⟩)
    | (go_at_call 18; (with_reducible refine (geom_ForQuota.calls q S (2 * q + 148) 2 4 28 Z 0 _ (quota_named HL.out)).mono ?_); rintro e w2 ⟨rfl, hb2⟩)
    | (go_at_call_of 30 (Value.int .i64 a); ((with_reducible refine (what_named HL.out a 2 y0 z0 _ HX.out).mono ?_)); rintro e w3 ⟨rfl, hb3⟩; obtain ⟨hc3, hf3⟩ := bcell hb3; have hz3 : w2.heap.size < w3.heap.size := by { have := hb3.size; simp at this; omega })
    | (go_at_call_of 30 (Value.int .i64 o); ((with_reducible refine (what_named HL.out o x1 y1 z1 _ HY.out).mono ?_)); rintro e w4 ⟨rfl, hb4⟩; obtain ⟨hc4, hf4⟩ := bcell hb4; have hz4 : w2.heap.size < w4.heap.size := by { have := hb4.size; omega })
    | (go_at_call 22; ((with_reducible refine (rootAt_named HL.out z0 y0 a _ HB.out hz hz2 HR.out).mono ?_)); rintro e w5 ⟨rfl, hb5⟩; obtain ⟨hc5, hf5⟩ := bcell hb5))
  go_ret
  exact ⟨(by first | rfl | exact retb (by simp; omega) | exact retb (by simp)), below_step (below_step (below_step (below_alloc (below_step hb1 hb2) _) hb3) hb4) hb5⟩

set_option maxHeartbeats 4000000 in
set_option maxRecDepth 100000 in
theorem once_2_half (q a o S Z y0 z0 x1 y1 z1 : Int) (w : World) (L : Lay q S Z) (ha : 0 ≤ a) (ha2 : a < S) (hb : 0 ≤ y0) (hb' : y0 ≤ 1) (hr : y0 * (2 * q + 148) + 2 + z0 = a) (hz : 0 ≤ z0) (hz2 : z0 < 2) (he : a ≠ o) (hk : 2 = x1) (hh : y0 ≠ y1) (hx : goWhat (2 * q + 148) S a = (2, y0, z0)) (hy : goWhat (2 * q + 148) S o = (x1, y1, z1)) :
    Calls Try.prog 11 #[.int .i64 q, .int .i64 a, .int .i64 o] w fun e w' => e = .returned (.bool true) ∧ Below w.heap.size w w' := by
  have HA := Lib.hid go_alive
  have HL := Lib.hid L
  have HX := Lib.hid hx
  have HY := Lib.hid hy
  clear L hx hy
  have c0 : decide (a < 0) = false := decide_eq_false (by omega)
  have c1 : decide (S ≤ a) = false := decide_eq_false (by omega)
  have c2 : decide (y0 < 0) = false := decide_eq_false (by omega)
  have c3 : decide (1 < y0) = false := decide_eq_false (by omega)
  have c4 : (a != o) = true := bne_iff_ne.mpr he
  have c5 : ((2 : Int) == x1) = true := by simp; omega
  have c6 : (y0 == y1) = false := by simp; omega
  have HB : Hid (y0 = 0 ∨ y0 = 1) := Lib.hid (by omega)
  have HR := Lib.hid hr
  clear hr
  clear he hk hh
  go_enter Try.func11, Try.ntmps11
  go_wp2_with (first
    | (go_at_call 17; (with_reducible refine (lazaretlaw08_alive.calls 4 true _ HA.out).mono ?_); rintro e w1 ⟨rfl, hb1⟩)
    | (go_at_call 18; (with_reducible refine (geom_ForQuota.calls q S (2 * q + 148) 2 4 28 Z 0 _ (quota_named HL.out)).mono ?_); rintro e w2 ⟨rfl, hb2⟩)
    | (go_at_call_of 30 (Value.int .i64 a); ((with_reducible refine (what_named HL.out a 2 y0 z0 _ HX.out).mono ?_)); rintro e w3 ⟨rfl, hb3⟩; obtain ⟨hc3, hf3⟩ := bcell hb3; have hz3 : w2.heap.size < w3.heap.size := by { have := hb3.size; simp at this; omega })
    | (go_at_call_of 30 (Value.int .i64 o); ((with_reducible refine (what_named HL.out o x1 y1 z1 _ HY.out).mono ?_)); rintro e w4 ⟨rfl, hb4⟩; obtain ⟨hc4, hf4⟩ := bcell hb4; have hz4 : w2.heap.size < w4.heap.size := by { have := hb4.size; omega })
    | (go_at_call 22; ((with_reducible refine (rootAt_named HL.out z0 y0 a _ HB.out hz hz2 HR.out).mono ?_)); rintro e w5 ⟨rfl, hb5⟩; obtain ⟨hc5, hf5⟩ := bcell hb5))
  go_ret
  exact ⟨(by first | rfl | exact retb (by simp; omega) | exact retb (by simp)), below_step (below_step (below_step (below_alloc (below_step hb1 hb2) _) hb3) hb4) hb5⟩

set_option maxHeartbeats 4000000 in
set_option maxRecDepth 100000 in
theorem once_2_place (q a o S Z y0 z0 x1 y1 z1 : Int) (w : World) (L : Lay q S Z) (ha : 0 ≤ a) (ha2 : a < S) (hb : 0 ≤ y0) (hb' : y0 ≤ 1) (hr : y0 * (2 * q + 148) + 2 + z0 = a) (hz : 0 ≤ z0) (hz2 : z0 < 2) (he : a ≠ o) (hk : 2 = x1) (hh : y0 = y1) (hp : z0 ≠ z1) (hx : goWhat (2 * q + 148) S a = (2, y0, z0)) (hy : goWhat (2 * q + 148) S o = (x1, y1, z1)) :
    Calls Try.prog 11 #[.int .i64 q, .int .i64 a, .int .i64 o] w fun e w' => e = .returned (.bool true) ∧ Below w.heap.size w w' := by
  have HA := Lib.hid go_alive
  have HL := Lib.hid L
  have HX := Lib.hid hx
  have HY := Lib.hid hy
  clear L hx hy
  have c0 : decide (a < 0) = false := decide_eq_false (by omega)
  have c1 : decide (S ≤ a) = false := decide_eq_false (by omega)
  have c2 : decide (y0 < 0) = false := decide_eq_false (by omega)
  have c3 : decide (1 < y0) = false := decide_eq_false (by omega)
  have c4 : (a != o) = true := bne_iff_ne.mpr he
  have c5 : ((2 : Int) == x1) = true := by simp; omega
  have c6 : (y0 == y1) = true := by simp; omega
  have c7 : (z0 == z1) = false := by simp; omega
  have HB : Hid (y0 = 0 ∨ y0 = 1) := Lib.hid (by omega)
  have HR := Lib.hid hr
  clear hr
  clear he hk hh hp
  go_enter Try.func11, Try.ntmps11
  go_wp2_with (first
    | (go_at_call 17; (with_reducible refine (lazaretlaw08_alive.calls 4 true _ HA.out).mono ?_); rintro e w1 ⟨rfl, hb1⟩)
    | (go_at_call 18; (with_reducible refine (geom_ForQuota.calls q S (2 * q + 148) 2 4 28 Z 0 _ (quota_named HL.out)).mono ?_); rintro e w2 ⟨rfl, hb2⟩)
    | (go_at_call_of 30 (Value.int .i64 a); ((with_reducible refine (what_named HL.out a 2 y0 z0 _ HX.out).mono ?_)); rintro e w3 ⟨rfl, hb3⟩; obtain ⟨hc3, hf3⟩ := bcell hb3; have hz3 : w2.heap.size < w3.heap.size := by { have := hb3.size; simp at this; omega })
    | (go_at_call_of 30 (Value.int .i64 o); ((with_reducible refine (what_named HL.out o x1 y1 z1 _ HY.out).mono ?_)); rintro e w4 ⟨rfl, hb4⟩; obtain ⟨hc4, hf4⟩ := bcell hb4; have hz4 : w2.heap.size < w4.heap.size := by { have := hb4.size; omega })
    | (go_at_call 22; ((with_reducible refine (rootAt_named HL.out z0 y0 a _ HB.out hz hz2 HR.out).mono ?_)); rintro e w5 ⟨rfl, hb5⟩; obtain ⟨hc5, hf5⟩ := bcell hb5))
  go_ret
  exact ⟨(by first | rfl | exact retb (by simp; omega) | exact retb (by simp)), below_step (below_step (below_step (below_alloc (below_step hb1 hb2) _) hb3) hb4) hb5⟩

set_option maxHeartbeats 4000000 in
set_option maxRecDepth 100000 in
theorem once_3_same (q a o S Z y0 z0 x1 y1 z1 : Int) (w : World) (L : Lay q S Z) (ha : 0 ≤ a) (ha2 : a < S) (hb : 0 ≤ y0) (hb' : y0 ≤ 1) (hr : y0 * (2 * q + 148) + 4 + z0 = a) (hz : 0 ≤ z0) (hz2 : z0 < 24) (he : a = o) (hx : goWhat (2 * q + 148) S a = (3, y0, z0)) (hy : goWhat (2 * q + 148) S o = (x1, y1, z1)) :
    Calls Try.prog 11 #[.int .i64 q, .int .i64 a, .int .i64 o] w fun e w' => e = .returned (.bool true) ∧ Below w.heap.size w w' := by
  have HA := Lib.hid go_alive
  have HL := Lib.hid L
  have HX := Lib.hid hx
  have HY := Lib.hid hy
  clear L hx hy
  have c0 : decide (a < 0) = false := decide_eq_false (by omega)
  have c1 : decide (S ≤ a) = false := decide_eq_false (by omega)
  have c2 : decide (y0 < 0) = false := decide_eq_false (by omega)
  have c3 : decide (1 < y0) = false := decide_eq_false (by omega)
  have c4 : (a != o) = false := bne_eq_false_iff_eq.mpr he
  have HB : Hid (y0 = 0 ∨ y0 = 1) := Lib.hid (by omega)
  have HR := Lib.hid hr
  clear hr
  clear he
  go_enter Try.func11, Try.ntmps11
  go_wp2_with (first
    | (go_at_call 17; (with_reducible refine (lazaretlaw08_alive.calls 4 true _ HA.out).mono ?_); rintro e w1 ⟨rfl, hb1⟩)
    | (go_at_call 18; (with_reducible refine (geom_ForQuota.calls q S (2 * q + 148) 2 4 28 Z 0 _ (quota_named HL.out)).mono ?_); rintro e w2 ⟨rfl, hb2⟩)
    | (go_at_call_of 30 (Value.int .i64 a); ((with_reducible refine (what_named HL.out a 3 y0 z0 _ HX.out).mono ?_)); rintro e w3 ⟨rfl, hb3⟩; obtain ⟨hc3, hf3⟩ := bcell hb3; have hz3 : w2.heap.size < w3.heap.size := by { have := hb3.size; simp at this; omega })
    | (go_at_call_of 30 (Value.int .i64 o); ((with_reducible refine (what_named HL.out o x1 y1 z1 _ HY.out).mono ?_)); rintro e w4 ⟨rfl, hb4⟩; obtain ⟨hc4, hf4⟩ := bcell hb4; have hz4 : w2.heap.size < w4.heap.size := by { have := hb4.size; omega })
    | (go_at_call 23; ((with_reducible refine (logAt_named HL.out z0 y0 a _ HB.out hz hz2 HR.out).mono ?_)); rintro e w5 ⟨rfl, hb5⟩; obtain ⟨hc5, hf5⟩ := bcell hb5))
  go_ret
  exact ⟨(by first | rfl | exact retb (by simp; omega) | exact retb (by simp)), below_step (below_step (below_step (below_alloc (below_step hb1 hb2) _) hb3) hb4) hb5⟩

set_option maxHeartbeats 4000000 in
set_option maxRecDepth 100000 in
theorem once_3_kind (q a o S Z y0 z0 x1 y1 z1 : Int) (w : World) (L : Lay q S Z) (ha : 0 ≤ a) (ha2 : a < S) (hb : 0 ≤ y0) (hb' : y0 ≤ 1) (hr : y0 * (2 * q + 148) + 4 + z0 = a) (hz : 0 ≤ z0) (hz2 : z0 < 24) (he : a ≠ o) (hk : 3 ≠ x1) (hx : goWhat (2 * q + 148) S a = (3, y0, z0)) (hy : goWhat (2 * q + 148) S o = (x1, y1, z1)) :
    Calls Try.prog 11 #[.int .i64 q, .int .i64 a, .int .i64 o] w fun e w' => e = .returned (.bool true) ∧ Below w.heap.size w w' := by
  have HA := Lib.hid go_alive
  have HL := Lib.hid L
  have HX := Lib.hid hx
  have HY := Lib.hid hy
  clear L hx hy
  have c0 : decide (a < 0) = false := decide_eq_false (by omega)
  have c1 : decide (S ≤ a) = false := decide_eq_false (by omega)
  have c2 : decide (y0 < 0) = false := decide_eq_false (by omega)
  have c3 : decide (1 < y0) = false := decide_eq_false (by omega)
  have c4 : (a != o) = true := bne_iff_ne.mpr he
  have c5 : ((3 : Int) == x1) = false := by simp; omega
  have HB : Hid (y0 = 0 ∨ y0 = 1) := Lib.hid (by omega)
  have HR := Lib.hid hr
  clear hr
  clear he hk
  go_enter Try.func11, Try.ntmps11
  go_wp2_with (first
    | (go_at_call 17; (with_reducible refine (lazaretlaw08_alive.calls 4 true _ HA.out).mono ?_); rintro e w1 ⟨rfl, hb1⟩)
    | (go_at_call 18; (with_reducible refine (geom_ForQuota.calls q S (2 * q + 148) 2 4 28 Z 0 _ (quota_named HL.out)).mono ?_); rintro e w2 ⟨rfl, hb2⟩)
    | (go_at_call_of 30 (Value.int .i64 a); ((with_reducible refine (what_named HL.out a 3 y0 z0 _ HX.out).mono ?_)); rintro e w3 ⟨rfl, hb3⟩; obtain ⟨hc3, hf3⟩ := bcell hb3; have hz3 : w2.heap.size < w3.heap.size := by { have := hb3.size; simp at this; omega })
    | (go_at_call_of 30 (Value.int .i64 o); ((with_reducible refine (what_named HL.out o x1 y1 z1 _ HY.out).mono ?_)); rintro e w4 ⟨rfl, hb4⟩; obtain ⟨hc4, hf4⟩ := bcell hb4; have hz4 : w2.heap.size < w4.heap.size := by { have := hb4.size; omega })
    | (go_at_call 23; ((with_reducible refine (logAt_named HL.out z0 y0 a _ HB.out hz hz2 HR.out).mono ?_)); rintro e w5 ⟨rfl, hb5⟩; obtain ⟨hc5, hf5⟩ := bcell hb5))
  go_ret
  exact ⟨(by first | rfl | exact retb (by simp; omega) | exact retb (by simp)), below_step (below_step (below_step (below_alloc (below_step hb1 hb2) _) hb3) hb4) hb5⟩

set_option maxHeartbeats 4000000 in
set_option maxRecDepth 100000 in
theorem once_3_half (q a o S Z y0 z0 x1 y1 z1 : Int) (w : World) (L : Lay q S Z) (ha : 0 ≤ a) (ha2 : a < S) (hb : 0 ≤ y0) (hb' : y0 ≤ 1) (hr : y0 * (2 * q + 148) + 4 + z0 = a) (hz : 0 ≤ z0) (hz2 : z0 < 24) (he : a ≠ o) (hk : 3 = x1) (hh : y0 ≠ y1) (hx : goWhat (2 * q + 148) S a = (3, y0, z0)) (hy : goWhat (2 * q + 148) S o = (x1, y1, z1)) :
    Calls Try.prog 11 #[.int .i64 q, .int .i64 a, .int .i64 o] w fun e w' => e = .returned (.bool true) ∧ Below w.heap.size w w' := by
  have HA := Lib.hid go_alive
  have HL := Lib.hid L
  have HX := Lib.hid hx
  have HY := Lib.hid hy
  clear L hx hy
  have c0 : decide (a < 0) = false := decide_eq_false (by omega)
  have c1 : decide (S ≤ a) = false := decide_eq_false (by omega)
  have c2 : decide (y0 < 0) = false := decide_eq_false (by omega)
  have c3 : decide (1 < y0) = false := decide_eq_false (by omega)
  have c4 : (a != o) = true := bne_iff_ne.mpr he
  have c5 : ((3 : Int) == x1) = true := by simp; omega
  have c6 : (y0 == y1) = false := by simp; omega
  have HB : Hid (y0 = 0 ∨ y0 = 1) := Lib.hid (by omega)
  have HR := Lib.hid hr
  clear hr
  clear he hk hh
  go_enter Try.func11, Try.ntmps11
  go_wp2_with (first
    | (go_at_call 17; (with_reducible refine (lazaretlaw08_alive.calls 4 true _ HA.out).mono ?_); rintro e w1 ⟨rfl, hb1⟩)
    | (go_at_call 18; (with_reducible refine (geom_ForQuota.calls q S (2 * q + 148) 2 4 28 Z 0 _ (quota_named HL.out)).mono ?_); rintro e w2 ⟨rfl, hb2⟩)
    | (go_at_call_of 30 (Value.int .i64 a); ((with_reducible refine (what_named HL.out a 3 y0 z0 _ HX.out).mono ?_)); rintro e w3 ⟨rfl, hb3⟩; obtain ⟨hc3, hf3⟩ := bcell hb3; have hz3 : w2.heap.size < w3.heap.size := by { have := hb3.size; simp at this; omega })
    | (go_at_call_of 30 (Value.int .i64 o); ((with_reducible refine (what_named HL.out o x1 y1 z1 _ HY.out).mono ?_)); rintro e w4 ⟨rfl, hb4⟩; obtain ⟨hc4, hf4⟩ := bcell hb4; have hz4 : w2.heap.size < w4.heap.size := by { have := hb4.size; omega })
    | (go_at_call 23; ((with_reducible refine (logAt_named HL.out z0 y0 a _ HB.out hz hz2 HR.out).mono ?_)); rintro e w5 ⟨rfl, hb5⟩; obtain ⟨hc5, hf5⟩ := bcell hb5))
  go_ret
  exact ⟨(by first | rfl | exact retb (by simp; omega) | exact retb (by simp)), below_step (below_step (below_step (below_alloc (below_step hb1 hb2) _) hb3) hb4) hb5⟩

set_option maxHeartbeats 4000000 in
set_option maxRecDepth 100000 in
theorem once_3_place (q a o S Z y0 z0 x1 y1 z1 : Int) (w : World) (L : Lay q S Z) (ha : 0 ≤ a) (ha2 : a < S) (hb : 0 ≤ y0) (hb' : y0 ≤ 1) (hr : y0 * (2 * q + 148) + 4 + z0 = a) (hz : 0 ≤ z0) (hz2 : z0 < 24) (he : a ≠ o) (hk : 3 = x1) (hh : y0 = y1) (hp : z0 ≠ z1) (hx : goWhat (2 * q + 148) S a = (3, y0, z0)) (hy : goWhat (2 * q + 148) S o = (x1, y1, z1)) :
    Calls Try.prog 11 #[.int .i64 q, .int .i64 a, .int .i64 o] w fun e w' => e = .returned (.bool true) ∧ Below w.heap.size w w' := by
  have HA := Lib.hid go_alive
  have HL := Lib.hid L
  have HX := Lib.hid hx
  have HY := Lib.hid hy
  clear L hx hy
  have c0 : decide (a < 0) = false := decide_eq_false (by omega)
  have c1 : decide (S ≤ a) = false := decide_eq_false (by omega)
  have c2 : decide (y0 < 0) = false := decide_eq_false (by omega)
  have c3 : decide (1 < y0) = false := decide_eq_false (by omega)
  have c4 : (a != o) = true := bne_iff_ne.mpr he
  have c5 : ((3 : Int) == x1) = true := by simp; omega
  have c6 : (y0 == y1) = true := by simp; omega
  have c7 : (z0 == z1) = false := by simp; omega
  have HB : Hid (y0 = 0 ∨ y0 = 1) := Lib.hid (by omega)
  have HR := Lib.hid hr
  clear hr
  clear he hk hh hp
  go_enter Try.func11, Try.ntmps11
  go_wp2_with (first
    | (go_at_call 17; (with_reducible refine (lazaretlaw08_alive.calls 4 true _ HA.out).mono ?_); rintro e w1 ⟨rfl, hb1⟩)
    | (go_at_call 18; (with_reducible refine (geom_ForQuota.calls q S (2 * q + 148) 2 4 28 Z 0 _ (quota_named HL.out)).mono ?_); rintro e w2 ⟨rfl, hb2⟩)
    | (go_at_call_of 30 (Value.int .i64 a); ((with_reducible refine (what_named HL.out a 3 y0 z0 _ HX.out).mono ?_)); rintro e w3 ⟨rfl, hb3⟩; obtain ⟨hc3, hf3⟩ := bcell hb3; have hz3 : w2.heap.size < w3.heap.size := by { have := hb3.size; simp at this; omega })
    | (go_at_call_of 30 (Value.int .i64 o); ((with_reducible refine (what_named HL.out o x1 y1 z1 _ HY.out).mono ?_)); rintro e w4 ⟨rfl, hb4⟩; obtain ⟨hc4, hf4⟩ := bcell hb4; have hz4 : w2.heap.size < w4.heap.size := by { have := hb4.size; omega })
    | (go_at_call 23; ((with_reducible refine (logAt_named HL.out z0 y0 a _ HB.out hz hz2 HR.out).mono ?_)); rintro e w5 ⟨rfl, hb5⟩; obtain ⟨hc5, hf5⟩ := bcell hb5))
  go_ret
  exact ⟨(by first | rfl | exact retb (by simp; omega) | exact retb (by simp)), below_step (below_step (below_step (below_alloc (below_step hb1 hb2) _) hb3) hb4) hb5⟩

set_option maxHeartbeats 4000000 in
set_option maxRecDepth 100000 in
theorem once_4_same (q a o S Z y0 z0 x1 y1 z1 : Int) (w : World) (L : Lay q S Z) (ha : 0 ≤ a) (ha2 : a < S) (hb : 0 ≤ y0) (hb' : y0 ≤ 1) (r : Int) (hr : y0 * (2 * q + 148) + 28 = r) (hr2 : r + z0 = a) (hz : 0 ≤ z0) (hz2 : z0 < Z) (hz3 : Z ≤ 1920) (hr3 : r < 5000) (hr4 : 0 ≤ r) (he : a = o) (hx : goWhat (2 * q + 148) S a = (4, y0, z0)) (hy : goWhat (2 * q + 148) S o = (x1, y1, z1)) :
    Calls Try.prog 11 #[.int .i64 q, .int .i64 a, .int .i64 o] w fun e w' => e = .returned (.bool true) ∧ Below w.heap.size w w' := by
  have HA := Lib.hid go_alive
  have HL := Lib.hid L
  have HX := Lib.hid hx
  have HY := Lib.hid hy
  clear L hx hy
  have c0 : decide (a < 0) = false := decide_eq_false (by omega)
  have c1 : decide (S ≤ a) = false := decide_eq_false (by omega)
  have c2 : decide (y0 < 0) = false := decide_eq_false (by omega)
  have c3 : decide (1 < y0) = false := decide_eq_false (by omega)
  have c4 : (a != o) = false := bne_eq_false_iff_eq.mpr he
  have HB : Hid (y0 = 0 ∨ y0 = 1) := Lib.hid (by omega)
  have HR := Lib.hid hr
  clear hr
  have c8 : (r + z0 == a) = true := by simp; omega
  have c9 : decide (z0 < Z) = true := decide_eq_true hz2
  have HR2 := Lib.hid hr2
  clear hr2
  clear he
  go_enter Try.func11, Try.ntmps11
  go_wp2_with (first
    | (go_at_call 17; (with_reducible refine (lazaretlaw08_alive.calls 4 true _ HA.out).mono ?_); rintro e w1 ⟨rfl, hb1⟩)
    | (go_at_call 18; (with_reducible refine (geom_ForQuota.calls q S (2 * q + 148) 2 4 28 Z 0 _ (quota_named HL.out)).mono ?_); rintro e w2 ⟨rfl, hb2⟩)
    | (go_at_call_of 30 (Value.int .i64 a); ((with_reducible refine (what_named HL.out a 4 y0 z0 _ HX.out).mono ?_)); rintro e w3 ⟨rfl, hb3⟩; obtain ⟨hc3, hf3⟩ := bcell hb3; have hz3 : w2.heap.size < w3.heap.size := by { have := hb3.size; simp at this; omega })
    | (go_at_call_of 30 (Value.int .i64 o); ((with_reducible refine (what_named HL.out o x1 y1 z1 _ HY.out).mono ?_)); rintro e w4 ⟨rfl, hb4⟩; obtain ⟨hc4, hf4⟩ := bcell hb4; have hz4 : w2.heap.size < w4.heap.size := by { have := hb4.size; omega })
    | (go_at_call 24; ((with_reducible refine (regionAt_named HL.out y0 r _ HB.out HR.out).mono ?_)); rintro e w5 ⟨rfl, hb5⟩; obtain ⟨hc5, hf5⟩ := bcell hb5))
  go_ret
  exact ⟨(by first | rfl | exact retb (by simp; omega) | exact retb (by simp)), below_step (below_step (below_step (below_alloc (below_step hb1 hb2) _) hb3) hb4) hb5⟩

set_option maxHeartbeats 4000000 in
set_option maxRecDepth 100000 in
theorem once_4_kind (q a o S Z y0 z0 x1 y1 z1 : Int) (w : World) (L : Lay q S Z) (ha : 0 ≤ a) (ha2 : a < S) (hb : 0 ≤ y0) (hb' : y0 ≤ 1) (r : Int) (hr : y0 * (2 * q + 148) + 28 = r) (hr2 : r + z0 = a) (hz : 0 ≤ z0) (hz2 : z0 < Z) (hz3 : Z ≤ 1920) (hr3 : r < 5000) (hr4 : 0 ≤ r) (he : a ≠ o) (hk : 4 ≠ x1) (hx : goWhat (2 * q + 148) S a = (4, y0, z0)) (hy : goWhat (2 * q + 148) S o = (x1, y1, z1)) :
    Calls Try.prog 11 #[.int .i64 q, .int .i64 a, .int .i64 o] w fun e w' => e = .returned (.bool true) ∧ Below w.heap.size w w' := by
  have HA := Lib.hid go_alive
  have HL := Lib.hid L
  have HX := Lib.hid hx
  have HY := Lib.hid hy
  clear L hx hy
  have c0 : decide (a < 0) = false := decide_eq_false (by omega)
  have c1 : decide (S ≤ a) = false := decide_eq_false (by omega)
  have c2 : decide (y0 < 0) = false := decide_eq_false (by omega)
  have c3 : decide (1 < y0) = false := decide_eq_false (by omega)
  have c4 : (a != o) = true := bne_iff_ne.mpr he
  have c5 : ((4 : Int) == x1) = false := by simp; omega
  have HB : Hid (y0 = 0 ∨ y0 = 1) := Lib.hid (by omega)
  have HR := Lib.hid hr
  clear hr
  have c8 : (r + z0 == a) = true := by simp; omega
  have c9 : decide (z0 < Z) = true := decide_eq_true hz2
  have HR2 := Lib.hid hr2
  clear hr2
  clear he hk
  go_enter Try.func11, Try.ntmps11
  go_wp2_with (first
    | (go_at_call 17; (with_reducible refine (lazaretlaw08_alive.calls 4 true _ HA.out).mono ?_); rintro e w1 ⟨rfl, hb1⟩)
    | (go_at_call 18; (with_reducible refine (geom_ForQuota.calls q S (2 * q + 148) 2 4 28 Z 0 _ (quota_named HL.out)).mono ?_); rintro e w2 ⟨rfl, hb2⟩)
    | (go_at_call_of 30 (Value.int .i64 a); ((with_reducible refine (what_named HL.out a 4 y0 z0 _ HX.out).mono ?_)); rintro e w3 ⟨rfl, hb3⟩; obtain ⟨hc3, hf3⟩ := bcell hb3; have hz3 : w2.heap.size < w3.heap.size := by { have := hb3.size; simp at this; omega })
    | (go_at_call_of 30 (Value.int .i64 o); ((with_reducible refine (what_named HL.out o x1 y1 z1 _ HY.out).mono ?_)); rintro e w4 ⟨rfl, hb4⟩; obtain ⟨hc4, hf4⟩ := bcell hb4; have hz4 : w2.heap.size < w4.heap.size := by { have := hb4.size; omega })
    | (go_at_call 24; ((with_reducible refine (regionAt_named HL.out y0 r _ HB.out HR.out).mono ?_)); rintro e w5 ⟨rfl, hb5⟩; obtain ⟨hc5, hf5⟩ := bcell hb5))
  go_ret
  exact ⟨(by first | rfl | exact retb (by simp; omega) | exact retb (by simp)), below_step (below_step (below_step (below_alloc (below_step hb1 hb2) _) hb3) hb4) hb5⟩

set_option maxHeartbeats 4000000 in
set_option maxRecDepth 100000 in
theorem once_4_half (q a o S Z y0 z0 x1 y1 z1 : Int) (w : World) (L : Lay q S Z) (ha : 0 ≤ a) (ha2 : a < S) (hb : 0 ≤ y0) (hb' : y0 ≤ 1) (r : Int) (hr : y0 * (2 * q + 148) + 28 = r) (hr2 : r + z0 = a) (hz : 0 ≤ z0) (hz2 : z0 < Z) (hz3 : Z ≤ 1920) (hr3 : r < 5000) (hr4 : 0 ≤ r) (he : a ≠ o) (hk : 4 = x1) (hh : y0 ≠ y1) (hx : goWhat (2 * q + 148) S a = (4, y0, z0)) (hy : goWhat (2 * q + 148) S o = (x1, y1, z1)) :
    Calls Try.prog 11 #[.int .i64 q, .int .i64 a, .int .i64 o] w fun e w' => e = .returned (.bool true) ∧ Below w.heap.size w w' := by
  have HA := Lib.hid go_alive
  have HL := Lib.hid L
  have HX := Lib.hid hx
  have HY := Lib.hid hy
  clear L hx hy
  have c0 : decide (a < 0) = false := decide_eq_false (by omega)
  have c1 : decide (S ≤ a) = false := decide_eq_false (by omega)
  have c2 : decide (y0 < 0) = false := decide_eq_false (by omega)
  have c3 : decide (1 < y0) = false := decide_eq_false (by omega)
  have c4 : (a != o) = true := bne_iff_ne.mpr he
  have c5 : ((4 : Int) == x1) = true := by simp; omega
  have c6 : (y0 == y1) = false := by simp; omega
  have HB : Hid (y0 = 0 ∨ y0 = 1) := Lib.hid (by omega)
  have HR := Lib.hid hr
  clear hr
  have c8 : (r + z0 == a) = true := by simp; omega
  have c9 : decide (z0 < Z) = true := decide_eq_true hz2
  have HR2 := Lib.hid hr2
  clear hr2
  clear he hk hh
  go_enter Try.func11, Try.ntmps11
  go_wp2_with (first
    | (go_at_call 17; (with_reducible refine (lazaretlaw08_alive.calls 4 true _ HA.out).mono ?_); rintro e w1 ⟨rfl, hb1⟩)
    | (go_at_call 18; (with_reducible refine (geom_ForQuota.calls q S (2 * q + 148) 2 4 28 Z 0 _ (quota_named HL.out)).mono ?_); rintro e w2 ⟨rfl, hb2⟩)
    | (go_at_call_of 30 (Value.int .i64 a); ((with_reducible refine (what_named HL.out a 4 y0 z0 _ HX.out).mono ?_)); rintro e w3 ⟨rfl, hb3⟩; obtain ⟨hc3, hf3⟩ := bcell hb3; have hz3 : w2.heap.size < w3.heap.size := by { have := hb3.size; simp at this; omega })
    | (go_at_call_of 30 (Value.int .i64 o); ((with_reducible refine (what_named HL.out o x1 y1 z1 _ HY.out).mono ?_)); rintro e w4 ⟨rfl, hb4⟩; obtain ⟨hc4, hf4⟩ := bcell hb4; have hz4 : w2.heap.size < w4.heap.size := by { have := hb4.size; omega })
    | (go_at_call 24; ((with_reducible refine (regionAt_named HL.out y0 r _ HB.out HR.out).mono ?_)); rintro e w5 ⟨rfl, hb5⟩; obtain ⟨hc5, hf5⟩ := bcell hb5))
  go_ret
  exact ⟨(by first | rfl | exact retb (by simp; omega) | exact retb (by simp)), below_step (below_step (below_step (below_alloc (below_step hb1 hb2) _) hb3) hb4) hb5⟩

set_option maxHeartbeats 4000000 in
set_option maxRecDepth 100000 in
theorem once_4_place (q a o S Z y0 z0 x1 y1 z1 : Int) (w : World) (L : Lay q S Z) (ha : 0 ≤ a) (ha2 : a < S) (hb : 0 ≤ y0) (hb' : y0 ≤ 1) (r : Int) (hr : y0 * (2 * q + 148) + 28 = r) (hr2 : r + z0 = a) (hz : 0 ≤ z0) (hz2 : z0 < Z) (hz3 : Z ≤ 1920) (hr3 : r < 5000) (hr4 : 0 ≤ r) (he : a ≠ o) (hk : 4 = x1) (hh : y0 = y1) (hp : z0 ≠ z1) (hx : goWhat (2 * q + 148) S a = (4, y0, z0)) (hy : goWhat (2 * q + 148) S o = (x1, y1, z1)) :
    Calls Try.prog 11 #[.int .i64 q, .int .i64 a, .int .i64 o] w fun e w' => e = .returned (.bool true) ∧ Below w.heap.size w w' := by
  have HA := Lib.hid go_alive
  have HL := Lib.hid L
  have HX := Lib.hid hx
  have HY := Lib.hid hy
  clear L hx hy
  have c0 : decide (a < 0) = false := decide_eq_false (by omega)
  have c1 : decide (S ≤ a) = false := decide_eq_false (by omega)
  have c2 : decide (y0 < 0) = false := decide_eq_false (by omega)
  have c3 : decide (1 < y0) = false := decide_eq_false (by omega)
  have c4 : (a != o) = true := bne_iff_ne.mpr he
  have c5 : ((4 : Int) == x1) = true := by simp; omega
  have c6 : (y0 == y1) = true := by simp; omega
  have c7 : (z0 == z1) = false := by simp; omega
  have HB : Hid (y0 = 0 ∨ y0 = 1) := Lib.hid (by omega)
  have HR := Lib.hid hr
  clear hr
  have c8 : (r + z0 == a) = true := by simp; omega
  have c9 : decide (z0 < Z) = true := decide_eq_true hz2
  have HR2 := Lib.hid hr2
  clear hr2
  clear he hk hh hp
  go_enter Try.func11, Try.ntmps11
  go_wp2_with (first
    | (go_at_call 17; (with_reducible refine (lazaretlaw08_alive.calls 4 true _ HA.out).mono ?_); rintro e w1 ⟨rfl, hb1⟩)
    | (go_at_call 18; (with_reducible refine (geom_ForQuota.calls q S (2 * q + 148) 2 4 28 Z 0 _ (quota_named HL.out)).mono ?_); rintro e w2 ⟨rfl, hb2⟩)
    | (go_at_call_of 30 (Value.int .i64 a); ((with_reducible refine (what_named HL.out a 4 y0 z0 _ HX.out).mono ?_)); rintro e w3 ⟨rfl, hb3⟩; obtain ⟨hc3, hf3⟩ := bcell hb3; have hz3 : w2.heap.size < w3.heap.size := by { have := hb3.size; simp at this; omega })
    | (go_at_call_of 30 (Value.int .i64 o); ((with_reducible refine (what_named HL.out o x1 y1 z1 _ HY.out).mono ?_)); rintro e w4 ⟨rfl, hb4⟩; obtain ⟨hc4, hf4⟩ := bcell hb4; have hz4 : w2.heap.size < w4.heap.size := by { have := hb4.size; omega })
    | (go_at_call 24; ((with_reducible refine (regionAt_named HL.out y0 r _ HB.out HR.out).mono ?_)); rintro e w5 ⟨rfl, hb5⟩; obtain ⟨hc5, hf5⟩ := bcell hb5))
  go_ret
  exact ⟨(by first | rfl | exact retb (by simp; omega) | exact retb (by simp)), below_step (below_step (below_step (below_alloc (below_step hb1 hb2) _) hb3) hb4) hb5⟩

set_option maxHeartbeats 4000000 in
set_option maxRecDepth 100000 in
theorem once_5_same (q a o S Z y0 z0 x1 y1 z1 : Int) (w : World) (L : Lay q S Z) (ha : 0 ≤ a) (ha2 : a < S) (hb : 0 ≤ y0) (hb' : y0 ≤ 1)  (he : a = o) (hx : goWhat (2 * q + 148) S a = (5, y0, z0)) (hy : goWhat (2 * q + 148) S o = (x1, y1, z1)) :
    Calls Try.prog 11 #[.int .i64 q, .int .i64 a, .int .i64 o] w fun e w' => e = .returned (.bool true) ∧ Below w.heap.size w w' := by
  have HA := Lib.hid go_alive
  have HL := Lib.hid L
  have HX := Lib.hid hx
  have HY := Lib.hid hy
  clear L hx hy
  have c0 : decide (a < 0) = false := decide_eq_false (by omega)
  have c1 : decide (S ≤ a) = false := decide_eq_false (by omega)
  have c2 : decide (y0 < 0) = false := decide_eq_false (by omega)
  have c3 : decide (1 < y0) = false := decide_eq_false (by omega)
  have c4 : (a != o) = false := bne_eq_false_iff_eq.mpr he
  have HB : Hid (y0 = 0 ∨ y0 = 1) := Lib.hid (by omega)
  clear he
  go_enter Try.func11, Try.ntmps11
  go_wp2_with (first
    | (go_at_call 17; (with_reducible refine (lazaretlaw08_alive.calls 4 true _ HA.out).mono ?_); rintro e w1 ⟨rfl, hb1⟩)
    | (go_at_call 18; (with_reducible refine (geom_ForQuota.calls q S (2 * q + 148) 2 4 28 Z 0 _ (quota_named HL.out)).mono ?_); rintro e w2 ⟨rfl, hb2⟩)
    | (go_at_call_of 30 (Value.int .i64 a); ((with_reducible refine (what_named HL.out a 5 y0 z0 _ HX.out).mono ?_)); rintro e w3 ⟨rfl, hb3⟩; obtain ⟨hc3, hf3⟩ := bcell hb3; have hz3 : w2.heap.size < w3.heap.size := by { have := hb3.size; simp at this; omega })
    | (go_at_call_of 30 (Value.int .i64 o); ((with_reducible refine (what_named HL.out o x1 y1 z1 _ HY.out).mono ?_)); rintro e w4 ⟨rfl, hb4⟩; obtain ⟨hc4, hf4⟩ := bcell hb4; have hz4 : w2.heap.size < w4.heap.size := by { have := hb4.size; omega }))
  go_ret
  exact ⟨(by first | rfl | exact retb (by simp; omega) | exact retb (by simp)), below_step (below_step (below_alloc (below_step hb1 hb2) _) hb3) hb4⟩

set_option maxHeartbeats 4000000 in
set_option maxRecDepth 100000 in
theorem once_5_kind (q a o S Z y0 z0 x1 y1 z1 : Int) (w : World) (L : Lay q S Z) (ha : 0 ≤ a) (ha2 : a < S) (hb : 0 ≤ y0) (hb' : y0 ≤ 1)  (he : a ≠ o) (hk : 5 ≠ x1) (hx : goWhat (2 * q + 148) S a = (5, y0, z0)) (hy : goWhat (2 * q + 148) S o = (x1, y1, z1)) :
    Calls Try.prog 11 #[.int .i64 q, .int .i64 a, .int .i64 o] w fun e w' => e = .returned (.bool true) ∧ Below w.heap.size w w' := by
  have HA := Lib.hid go_alive
  have HL := Lib.hid L
  have HX := Lib.hid hx
  have HY := Lib.hid hy
  clear L hx hy
  have c0 : decide (a < 0) = false := decide_eq_false (by omega)
  have c1 : decide (S ≤ a) = false := decide_eq_false (by omega)
  have c2 : decide (y0 < 0) = false := decide_eq_false (by omega)
  have c3 : decide (1 < y0) = false := decide_eq_false (by omega)
  have c4 : (a != o) = true := bne_iff_ne.mpr he
  have c5 : ((5 : Int) == x1) = false := by simp; omega
  have HB : Hid (y0 = 0 ∨ y0 = 1) := Lib.hid (by omega)
  clear he hk
  go_enter Try.func11, Try.ntmps11
  go_wp2_with (first
    | (go_at_call 17; (with_reducible refine (lazaretlaw08_alive.calls 4 true _ HA.out).mono ?_); rintro e w1 ⟨rfl, hb1⟩)
    | (go_at_call 18; (with_reducible refine (geom_ForQuota.calls q S (2 * q + 148) 2 4 28 Z 0 _ (quota_named HL.out)).mono ?_); rintro e w2 ⟨rfl, hb2⟩)
    | (go_at_call_of 30 (Value.int .i64 a); ((with_reducible refine (what_named HL.out a 5 y0 z0 _ HX.out).mono ?_)); rintro e w3 ⟨rfl, hb3⟩; obtain ⟨hc3, hf3⟩ := bcell hb3; have hz3 : w2.heap.size < w3.heap.size := by { have := hb3.size; simp at this; omega })
    | (go_at_call_of 30 (Value.int .i64 o); ((with_reducible refine (what_named HL.out o x1 y1 z1 _ HY.out).mono ?_)); rintro e w4 ⟨rfl, hb4⟩; obtain ⟨hc4, hf4⟩ := bcell hb4; have hz4 : w2.heap.size < w4.heap.size := by { have := hb4.size; omega }))
  go_ret
  exact ⟨(by first | rfl | exact retb (by simp; omega) | exact retb (by simp)), below_step (below_step (below_alloc (below_step hb1 hb2) _) hb3) hb4⟩

set_option maxHeartbeats 4000000 in
set_option maxRecDepth 100000 in
theorem once_5_half (q a o S Z y0 z0 x1 y1 z1 : Int) (w : World) (L : Lay q S Z) (ha : 0 ≤ a) (ha2 : a < S) (hb : 0 ≤ y0) (hb' : y0 ≤ 1)  (he : a ≠ o) (hk : 5 = x1) (hh : y0 ≠ y1) (hx : goWhat (2 * q + 148) S a = (5, y0, z0)) (hy : goWhat (2 * q + 148) S o = (x1, y1, z1)) :
    Calls Try.prog 11 #[.int .i64 q, .int .i64 a, .int .i64 o] w fun e w' => e = .returned (.bool true) ∧ Below w.heap.size w w' := by
  have HA := Lib.hid go_alive
  have HL := Lib.hid L
  have HX := Lib.hid hx
  have HY := Lib.hid hy
  clear L hx hy
  have c0 : decide (a < 0) = false := decide_eq_false (by omega)
  have c1 : decide (S ≤ a) = false := decide_eq_false (by omega)
  have c2 : decide (y0 < 0) = false := decide_eq_false (by omega)
  have c3 : decide (1 < y0) = false := decide_eq_false (by omega)
  have c4 : (a != o) = true := bne_iff_ne.mpr he
  have c5 : ((5 : Int) == x1) = true := by simp; omega
  have c6 : (y0 == y1) = false := by simp; omega
  have HB : Hid (y0 = 0 ∨ y0 = 1) := Lib.hid (by omega)
  clear he hk hh
  go_enter Try.func11, Try.ntmps11
  go_wp2_with (first
    | (go_at_call 17; (with_reducible refine (lazaretlaw08_alive.calls 4 true _ HA.out).mono ?_); rintro e w1 ⟨rfl, hb1⟩)
    | (go_at_call 18; (with_reducible refine (geom_ForQuota.calls q S (2 * q + 148) 2 4 28 Z 0 _ (quota_named HL.out)).mono ?_); rintro e w2 ⟨rfl, hb2⟩)
    | (go_at_call_of 30 (Value.int .i64 a); ((with_reducible refine (what_named HL.out a 5 y0 z0 _ HX.out).mono ?_)); rintro e w3 ⟨rfl, hb3⟩; obtain ⟨hc3, hf3⟩ := bcell hb3; have hz3 : w2.heap.size < w3.heap.size := by { have := hb3.size; simp at this; omega })
    | (go_at_call_of 30 (Value.int .i64 o); ((with_reducible refine (what_named HL.out o x1 y1 z1 _ HY.out).mono ?_)); rintro e w4 ⟨rfl, hb4⟩; obtain ⟨hc4, hf4⟩ := bcell hb4; have hz4 : w2.heap.size < w4.heap.size := by { have := hb4.size; omega }))
  go_ret
  exact ⟨(by first | rfl | exact retb (by simp; omega) | exact retb (by simp)), below_step (below_step (below_alloc (below_step hb1 hb2) _) hb3) hb4⟩

set_option maxHeartbeats 4000000 in
set_option maxRecDepth 100000 in
theorem once_5_place (q a o S Z y0 z0 x1 y1 z1 : Int) (w : World) (L : Lay q S Z) (ha : 0 ≤ a) (ha2 : a < S) (hb : 0 ≤ y0) (hb' : y0 ≤ 1)  (he : a ≠ o) (hk : 5 = x1) (hh : y0 = y1) (hp : z0 ≠ z1) (hx : goWhat (2 * q + 148) S a = (5, y0, z0)) (hy : goWhat (2 * q + 148) S o = (x1, y1, z1)) :
    Calls Try.prog 11 #[.int .i64 q, .int .i64 a, .int .i64 o] w fun e w' => e = .returned (.bool true) ∧ Below w.heap.size w w' := by
  have HA := Lib.hid go_alive
  have HL := Lib.hid L
  have HX := Lib.hid hx
  have HY := Lib.hid hy
  clear L hx hy
  have c0 : decide (a < 0) = false := decide_eq_false (by omega)
  have c1 : decide (S ≤ a) = false := decide_eq_false (by omega)
  have c2 : decide (y0 < 0) = false := decide_eq_false (by omega)
  have c3 : decide (1 < y0) = false := decide_eq_false (by omega)
  have c4 : (a != o) = true := bne_iff_ne.mpr he
  have c5 : ((5 : Int) == x1) = true := by simp; omega
  have c6 : (y0 == y1) = true := by simp; omega
  have c7 : (z0 == z1) = false := by simp; omega
  have HB : Hid (y0 = 0 ∨ y0 = 1) := Lib.hid (by omega)
  clear he hk hh hp
  go_enter Try.func11, Try.ntmps11
  go_wp2_with (first
    | (go_at_call 17; (with_reducible refine (lazaretlaw08_alive.calls 4 true _ HA.out).mono ?_); rintro e w1 ⟨rfl, hb1⟩)
    | (go_at_call 18; (with_reducible refine (geom_ForQuota.calls q S (2 * q + 148) 2 4 28 Z 0 _ (quota_named HL.out)).mono ?_); rintro e w2 ⟨rfl, hb2⟩)
    | (go_at_call_of 30 (Value.int .i64 a); ((with_reducible refine (what_named HL.out a 5 y0 z0 _ HX.out).mono ?_)); rintro e w3 ⟨rfl, hb3⟩; obtain ⟨hc3, hf3⟩ := bcell hb3; have hz3 : w2.heap.size < w3.heap.size := by { have := hb3.size; simp at this; omega })
    | (go_at_call_of 30 (Value.int .i64 o); ((with_reducible refine (what_named HL.out o x1 y1 z1 _ HY.out).mono ?_)); rintro e w4 ⟨rfl, hb4⟩; obtain ⟨hc4, hf4⟩ := bcell hb4; have hz4 : w2.heap.size < w4.heap.size := by { have := hb4.size; omega }))
  go_ret
  exact ⟨(by first | rfl | exact retb (by simp; omega) | exact retb (by simp)), below_step (below_step (below_alloc (below_step hb1 hb2) _) hb3) hb4⟩

theorem once_all (q a o : Int) (w : World) :
    Calls Try.prog 11 #[.int .i64 q, .int .i64 a, .int .i64 o] w fun e w' => e = .returned (.bool true) ∧ Below w.heap.size w w' := by
  by_cases h1 : q < 4
  · exact once_bad q a o w (go_fq_low h1)
  by_cases h2 : 900 < q
  · exact once_bad q a o w (go_fq_high h2)
  have L : Lay q (4 * q + 316) (2 * q + 120) := ⟨by omega, by omega, rfl, rfl⟩
  have f1 := go_fact (2 * q + 148) (4 * q + 316) a (by omega)
  have f2 := go_fact (2 * q + 148) (4 * q + 316) o (by omega)
  rcases hx : goWhat (2 * q + 148) (4 * q + 316) a with ⟨x0, y0, z0⟩
  rcases hy : goWhat (2 * q + 148) (4 * q + 316) o with ⟨x1, y1, z1⟩
  rw [hx] at f1
  rw [hy] at f2
  unfold GoFact at f1 f2
  dsimp only at f1 f2
  rcases f1 with ⟨ho, e1, e2, e3⟩ | ⟨ha, ha2, f1⟩
  · subst e1 e2 e3
    rcases Int.lt_or_le a 0 with hn | hn
    · exact once_neg q a o _ _ _ _ _ w L hn hx hy
    · exact once_far q a o _ _ _ _ _ w L hn (by omega) hx hy
  have hp : a ≠ o → x0 = x1 → y0 = y1 → z0 ≠ z1 := by
    intro h3 h4 h5 h6
    subst h4 h5 h6
    rcases f2 with ⟨-, e1, -⟩ | ⟨-, -, f2⟩
    · omega
    rcases f1 with f1 | ⟨-, -, -, f1⟩ <;> rcases f2 with f2 | ⟨-, -, -, f2⟩ <;> omega
  have hy01 : 0 ≤ y0 ∧ y0 ≤ 1 := by
    rcases f1 with ⟨-, e, -⟩ | ⟨e, -⟩ <;> omega
  obtain ⟨hb, hb'⟩ := hy01
  rcases f1 with ⟨e1, e2, e3, e4⟩ | ⟨e1, e2, e3, ⟨f1, f3, f4⟩ | ⟨f1, f3, f4, f5⟩ | ⟨f1, f3, f4, f5⟩ | ⟨f1, f3, f4⟩⟩
  · subst e1
    by_cases he : a = o
    · exact once_5_same q a o _ _ _ _ _ _ _ w L ha ha2 hb hb'  he hx hy
    by_cases hk : 5 = x1
    · by_cases hh : y0 = y1
      · exact once_5_place q a o _ _ _ _ _ _ _ w L ha ha2 hb hb'  he hk hh (hp he hk hh) hx hy
      · exact once_5_half q a o _ _ _ _ _ _ _ w L ha ha2 hb hb'  he hk hh hx hy
    · exact once_5_kind q a o _ _ _ _ _ _ _ w L ha ha2 hb hb'  he hk hx hy
  · subst f1
    have hr : y0 * (2 * q + 148) + 28 = y0 * (2 * q + 148) + 28 := rfl
    have hm : y0 * (2 * q + 148) = 0 ∨ y0 * (2 * q + 148) = 2 * q + 148 := by rcases e1 with rfl | rfl <;> omega
    by_cases he : a = o
    · exact once_4_same q a o _ _ _ _ _ _ _ w L ha ha2 hb hb' _ rfl (by omega) (by omega) (by omega) (by omega) (by omega) (by omega) he hx hy
    by_cases hk : 4 = x1
    · by_cases hh : y0 = y1
      · exact once_4_place q a o _ _ _ _ _ _ _ w L ha ha2 hb hb' _ rfl (by omega) (by omega) (by omega) (by omega) (by omega) (by omega) he hk hh (hp he hk hh) hx hy
      · exact once_4_half q a o _ _ _ _ _ _ _ w L ha ha2 hb hb' _ rfl (by omega) (by omega) (by omega) (by omega) (by omega) (by omega) he hk hh hx hy
    · exact once_4_kind q a o _ _ _ _ _ _ _ w L ha ha2 hb hb' _ rfl (by omega) (by omega) (by omega) (by omega) (by omega) (by omega) he hk hx hy
  · subst f1
    by_cases he : a = o
    · exact once_3_same q a o _ _ _ _ _ _ _ w L ha ha2 hb hb' (by omega) (by omega) (by omega) he hx hy
    by_cases hk : 3 = x1
    · by_cases hh : y0 = y1
      · exact once_3_place q a o _ _ _ _ _ _ _ w L ha ha2 hb hb' (by omega) (by omega) (by omega) he hk hh (hp he hk hh) hx hy
      · exact once_3_half q a o _ _ _ _ _ _ _ w L ha ha2 hb hb' (by omega) (by omega) (by omega) he hk hh hx hy
    · exact once_3_kind q a o _ _ _ _ _ _ _ w L ha ha2 hb hb' (by omega) (by omega) (by omega) he hk hx hy
  · subst f1
    by_cases he : a = o
    · exact once_2_same q a o _ _ _ _ _ _ _ w L ha ha2 hb hb' (by omega) (by omega) (by omega) he hx hy
    by_cases hk : 2 = x1
    · by_cases hh : y0 = y1
      · exact once_2_place q a o _ _ _ _ _ _ _ w L ha ha2 hb hb' (by omega) (by omega) (by omega) he hk hh (hp he hk hh) hx hy
      · exact once_2_half q a o _ _ _ _ _ _ _ w L ha ha2 hb hb' (by omega) (by omega) (by omega) he hk hh hx hy
    · exact once_2_kind q a o _ _ _ _ _ _ _ w L ha ha2 hb hb' (by omega) (by omega) (by omega) he hk hx hy
  · subst f1
    by_cases he : a = o
    · exact once_1_same q a o _ _ _ _ _ _ _ w L ha ha2 hb hb'  he hx hy
    by_cases hk : 1 = x1
    · by_cases hh : y0 = y1
      · exact once_1_place q a o _ _ _ _ _ _ _ w L ha ha2 hb hb'  he hk hh (hp he hk hh) hx hy
      · exact once_1_half q a o _ _ _ _ _ _ _ w L ha ha2 hb hb'  he hk hh hx hy
    · exact once_1_kind q a o _ _ _ _ _ _ _ w L ha ha2 hb hb'  he hk hx hy

end Go.Proofs.Ytkajbhkhecoccaa.GeoOnce
