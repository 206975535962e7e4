/- What stands in a sector of a layout: the walk of geom.What. -/
import Derived.Test.YtkajbhkhecoccaaPGeomOncex2
import Derived.Lib.Hide
set_option linter.unusedVariables false
set_option linter.unusedSimpArgs false
namespace Go.Proofs.Ytkajbhkhecoccaa.GeoWhat
open Go.RowKit Go.Proofs.Ytkajbhkhecoccaa.PGeomOnce Go.Proofs.YtkajbhkhecoccaaW.PrintWords Go.Proofs.YtkajbhkhecoccaaW.PrintLast Go.Proofs.YtkajbhkhecoccaaW.PrintMore

theorem go_fq_low {q : Int} (h : q < 4) : geom_ForQuota.f q = some (0, 0, 0, 0, 0, 0, 1) := by
  unfold geom_ForQuota.f; rw [if_pos h]
theorem go_fq_high {q : Int} (h : 900 < q) : geom_ForQuota.f q = some (0, 0, 0, 0, 0, 0, 1) := by
  unfold geom_ForQuota.f; rw [if_neg (by omega), if_pos h]
theorem go_fq_good {q : Int} (h : 4 ≤ q) (h' : q ≤ 900) : geom_ForQuota.f q = some (4 * q + 316, 2 * q + 148, 2, 4, 28, 2 * q + 120, 0) := by
  unfold geom_ForQuota.f
  rw [if_neg (by omega), if_neg (by omega)]
  have e1 : wrap64 ((wrap64 (2 * q)) + 120) = 2 * q + 120 := by unfold wrap64; omega
  have e2 : wrap64 (28 + (2 * q + 120)) = 2 * q + 148 := by unfold wrap64; omega
  have e3 : wrap64 ((wrap64 (2 * (2 * q + 148))) + 20) = 4 * q + 316 := by unfold wrap64; omega
  rw [e1, e2, e3]

theorem go_quota {q : Int} (h : 4 ≤ q) (h' : q ≤ 900) (k : Nat) : geom_Quota.f (k + 1) (4 * q + 316) (2 * q + 148) 2 4 28 (2 * q + 120) = some q := by
  unfold geom_Quota.f
  rw [if_neg (by omega)]
  simp only [geom_Quota.j0]
  rw [if_neg (by simp; omega)]
  have e1 : wrap64 (2 * q + 120 - 120) = 2 * q := by unfold wrap64; omega
  have e2 : Int.tdiv (2 * q) 2 = q := by rw [Int.tdiv_eq_ediv_of_nonneg (by omega)]; omega
  have e3 : wrap64 q = q := by unfold wrap64; omega
  rw [e1, e2, e3, go_fq_good h h']
  simp

theorem go_right {q : Int} (h : 4 ≤ q) (h' : q ≤ 900) (k : Nat) (b : Int) (hb : b = 0 ∨ b = 1) : geom_right.f (k + 1) (4 * q + 316) (2 * q + 148) 2 4 28 (2 * q + 120) b = some true := by
  unfold geom_right.f
  rw [go_quota h h']
  rcases hb with rfl | rfl
  · rw [if_pos rfl]; simp; omega
  · rw [if_neg (by omega), if_pos rfl]; simp; omega

/-- what stands in a sector: halves of H sectors, S in all -/
def goWhat (H S at_ : Int) : Int × Int × Int :=
  if at_ < 0 then (0, 0, 0) else if at_ ≥ S then (0, 0, 0) else if at_ ≥ 2 * H then (5, 0, at_ - 2 * H)
  else if at_ < H then (if at_ ≥ 28 then (4, 0, at_ - 28) else if at_ ≥ 4 then (3, 0, at_ - 4) else if at_ ≥ 2 then (2, 0, at_ - 2) else (1, 0, at_))
  else (if at_ - H ≥ 28 then (4, 1, at_ - H - 28) else if at_ - H ≥ 4 then (3, 1, at_ - H - 4) else if at_ - H ≥ 2 then (2, 1, at_ - H - 2) else (1, 1, at_ - H))

theorem go_div (a H b i : Int) (hH : 0 < H) (hb : 0 ≤ b) (hi : 0 ≤ i) (hiH : i < H) (e : a = b * H + i) : Int.tdiv a H = b ∧ Int.tmod a H = i := by
  have hbH : 0 ≤ b * H := Int.mul_nonneg hb (by omega)
  rw [Int.tdiv_eq_ediv_of_nonneg (by omega), Int.tmod_eq_emod_of_nonneg (by omega)]
  have e2 : a = i + H * b := by rw [e, Int.mul_comm b H, Int.add_comm]
  constructor
  · rw [e2, Int.add_mul_ediv_left _ _ (by omega), Int.ediv_eq_zero_of_lt hi hiH]; omega
  · rw [e2, Int.add_mul_emod_self_left, Int.emod_eq_of_lt hi hiH]

theorem go_alive : lazaretlaw08_alive.f 4 = some true := by decide +kernel

theorem go_rootAt {q : Int} (h : 4 ≤ q) (h' : q ≤ 900) (k : Nat) (n b : Int) (hb : b = 0 ∨ b = 1) (hn : 0 ≤ n) (hn' : n < 2) : geom_RootAt.f (k + 1) (4 * q + 316) (2 * q + 148) 2 4 28 (2 * q + 120) n b = some (b * (2 * q + 148) + 2 + n, 0) := by
  unfold geom_RootAt.f
  rw [if_neg (by omega), go_right h h' k b hb]
  simp only [Option.bind_some, if_true]
  have e : Int.tmod n 2 = n := by rw [Int.tmod_eq_emod_of_nonneg hn]; omega
  rw [e]
  have e2 : wrap64 (wrap64 (wrap64 (b * (2 * q + 148)) + 2) + n) = b * (2 * q + 148) + 2 + n := by
    rcases hb with rfl | rfl <;> unfold wrap64 <;> omega
  rw [e2]
theorem go_logAt {q : Int} (h : 4 ≤ q) (h' : q ≤ 900) (k : Nat) (n b : Int) (hb : b = 0 ∨ b = 1) (hn : 0 ≤ n) (hn' : n < 24) : geom_LogAt.f (k + 1) (4 * q + 316) (2 * q + 148) 2 4 28 (2 * q + 120) n b = some (b * (2 * q + 148) + 4 + n, 0) := by
  unfold geom_LogAt.f
  rw [if_neg (by omega), if_neg (by omega), go_right h h' k b hb]
  simp only [Option.bind_some, if_true]
  have e2 : wrap64 (wrap64 (wrap64 (b * (2 * q + 148)) + 4) + n) = b * (2 * q + 148) + 4 + n := by
    rcases hb with rfl | rfl <;> unfold wrap64 <;> omega
  rw [e2]
theorem go_regionAt {q : Int} (h : 4 ≤ q) (h' : q ≤ 900) (k : Nat) (b : Int) (hb : b = 0 ∨ b = 1) : geom_RegionAt.f (k + 1) (4 * q + 316) (2 * q + 148) 2 4 28 (2 * q + 120) b = some (b * (2 * q + 148) + 28, 0) := by
  unfold geom_RegionAt.f
  rw [go_right h h' k b hb]
  simp only [Option.bind_some, if_true]
  have e2 : wrap64 (wrap64 (b * (2 * q + 148)) + 28) = b * (2 * q + 148) + 28 := by
    rcases hb with rfl | rfl <;> unfold wrap64 <;> omega
  rw [e2]

/-- what goWhat tells, as facts on numbers -/
def GoFact (H S a : Int) (r : Int × Int × Int) : Prop :=
  ((a < 0 ∨ S ≤ a) ∧ r.1 = 0 ∧ r.2.1 = 0 ∧ r.2.2 = 0) ∨
  (0 ≤ a ∧ a < S ∧ (
    (r.1 = 5 ∧ r.2.1 = 0 ∧ r.2.2 = a - 2 * H ∧ 2 * H ≤ a) ∨
    ((r.2.1 = 0 ∨ r.2.1 = 1) ∧ 0 ≤ a - r.2.1 * H ∧ a - r.2.1 * H < H ∧
      ((r.1 = 4 ∧ r.2.2 = a - r.2.1 * H - 28 ∧ 28 ≤ a - r.2.1 * H) ∨ (r.1 = 3 ∧ r.2.2 = a - r.2.1 * H - 4 ∧ 4 ≤ a - r.2.1 * H ∧ a - r.2.1 * H < 28) ∨
       (r.1 = 2 ∧ r.2.2 = a - r.2.1 * H - 2 ∧ 2 ≤ a - r.2.1 * H ∧ a - r.2.1 * H < 4) ∨ (r.1 = 1 ∧ r.2.2 = a - r.2.1 * H ∧ a - r.2.1 * H < 2)))))

theorem go_fact (H S a : Int) (hH : 28 ≤ H) : GoFact H S a (goWhat H S a) := by
  unfold goWhat GoFact
  split
  · left; exact ⟨by omega, rfl, rfl, rfl⟩
  split
  · left; exact ⟨by omega, rfl, rfl, rfl⟩
  right
  refine ⟨by omega, by omega, ?_⟩
  split
  · left; exact ⟨rfl, rfl, rfl, by omega⟩
  right
  split
  · split
    · exact ⟨by simp, by simp; omega, by simp; omega, by simp; omega⟩
    split
    · exact ⟨by simp, by simp; omega, by simp; omega, by simp; omega⟩
    split
    · exact ⟨by simp, by simp; omega, by simp; omega, by simp; omega⟩
    · exact ⟨by simp, by simp; omega, by simp; omega, by simp; omega⟩
  · split
    · exact ⟨by simp, by simp; omega, by simp; omega, by simp; omega⟩
    split
    · exact ⟨by simp, by simp; omega, by simp; omega, by simp; omega⟩
    split
    · exact ⟨by simp, by simp; omega, by simp; omega, by simp; omega⟩
    · exact ⟨by simp, by simp; omega, by simp; omega, by simp; omega⟩

theorem bcell {W w1 : World} (hb : Below W.heap.size W w1) : (∀ b o, b < W.heap.size → w1.cell? ⟨b, o, none⟩ = W.cell? ⟨b, o, none⟩) ∧ (∀ b o, b < W.heap.size → w1.frozen? ⟨b, o, none⟩ = W.frozen? ⟨b, o, none⟩) :=
  ⟨fun b o h => hb.cell (p := ⟨b, o, none⟩) h, fun b o h => hb.frozen (p := ⟨b, o, none⟩) h⟩

theorem ret3 {a b c a' b' c' : Int} (h1 : a = a') (h2 : b = b') (h3 : c = c') : Ending.returned (.tuple #[.int .i64 a, .int .i64 b, .int .i64 c]) = .returned (.tuple #[.int .i64 a', .int .i64 b', .int .i64 c']) := by rw [h1, h2, h3]

set_option maxHeartbeats 1000000 in
set_option maxRecDepth 100000 in
theorem what_neg (s h r l re sz a : Int) (w : World) (ha : a < 0) :
    Calls Try.prog 30 #[.agg #[.int .i64 s, .int .i64 h, .int .i64 r, .int .i64 l, .int .i64 re, .int .i64 sz], .int .i64 a] w fun e w' =>
      e = .returned (.tuple #[.int .i64 0, .int .i64 0, .int .i64 0]) ∧ Below w.heap.size w w' := by
  have c : decide (a < 0) = true := decide_eq_true ha
  go_enter Try.func30, Try.ntmps30
  go_wp2
  go_ret3
  exact ⟨rfl, (Below.refl _ _).alloc (Nat.le_refl _) _⟩

set_option maxHeartbeats 1000000 in
set_option maxRecDepth 100000 in
theorem what_far (s h r l re sz a : Int) (w : World) (ha : 0 ≤ a) (hs : s ≤ a) :
    Calls Try.prog 30 #[.agg #[.int .i64 s, .int .i64 h, .int .i64 r, .int .i64 l, .int .i64 re, .int .i64 sz], .int .i64 a] w fun e w' =>
      e = .returned (.tuple #[.int .i64 0, .int .i64 0, .int .i64 0]) ∧ Below w.heap.size w w' := by
  have c : decide (a < 0) = false := decide_eq_false (by omega)
  have c2 : decide (s ≤ a) = true := decide_eq_true hs
  go_enter Try.func30, Try.ntmps30
  go_wp2
  go_ret3
  exact ⟨rfl, (Below.refl _ _).alloc (Nat.le_refl _) _⟩

set_option maxHeartbeats 1000000 in
set_option maxRecDepth 100000 in
theorem what_none (k : Nat) (s h r l re sz a : Int) (w : World) (ha : 0 ≤ a) (hs : a < s) (hq : geom_Quota.f k s h r l re sz = some 0) :
    Calls Try.prog 30 #[.agg #[.int .i64 s, .int .i64 h, .int .i64 r, .int .i64 l, .int .i64 re, .int .i64 sz], .int .i64 a] w fun e w' =>
      e = .returned (.tuple #[.int .i64 0, .int .i64 0, .int .i64 0]) ∧ Below w.heap.size w w' := by
  have c : decide (a < 0) = false := decide_eq_false (by omega)
  have c2 : decide (s ≤ a) = false := decide_eq_false (by omega)
  have HQ := Lib.hid hq
  clear hq
  go_enter Try.func30, Try.ntmps30
  go_wp2_with (go_at_call 32; (with_reducible refine (geom_Quota.calls k s h r l re sz 0 _ HQ.out).mono ?_); rintro e w7 ⟨rfl, hb⟩; obtain ⟨hc, hf⟩ := bcell hb)
  go_ret3
  exact ⟨rfl, ((Below.refl _ _).alloc (Nat.le_refl _) _).trans (hb.mono (by simp))⟩

set_option maxHeartbeats 2000000 in
set_option maxRecDepth 100000 in
theorem what_spare (k : Nat) (q a : Int) (w : World) (h4 : 4 ≤ q) (h9 : q ≤ 900) (ha : 0 ≤ a) (hs : a < 4 * q + 316) (h1 : 2 * (2 * q + 148) ≤ a) (hq : geom_Quota.f k (4 * q + 316) (2 * q + 148) 2 4 28 (2 * q + 120) = some q) :
    Calls Try.prog 30 #[.agg #[.int .i64 (4 * q + 316), .int .i64 (2 * q + 148), .int .i64 2, .int .i64 4, .int .i64 28, .int .i64 (2 * q + 120)], .int .i64 a] w fun e w' =>
      e = .returned (.tuple #[.int .i64 5, .int .i64 0, .int .i64 (a - 2 * (2 * q + 148))]) ∧ Below w.heap.size w w' := by
  have c : decide (a < 0) = false := decide_eq_false (by omega)
  have c2 : decide (4 * q + 316 ≤ a) = false := decide_eq_false (by omega)
  have c3 : (q == 0) = false := by rw [beq_eq_false_iff_ne]; omega
  have c4 : decide (2 * (2 * q + 148) ≤ a) = true := decide_eq_true h1
  have HQ := Lib.hid hq
  clear hq
  generalize hS : 4 * q + 316 = S at *
  generalize hZ : 2 * q + 120 = Z at *
  have HS := Lib.hid hS
  have HZ := Lib.hid hZ
  clear hS hZ
  go_enter Try.func30, Try.ntmps30
  go_wp2_with (go_at_call 32; (with_reducible refine (geom_Quota.calls k S (2 * q + 148) 2 4 28 Z q _ HQ.out).mono ?_); rintro e w7 ⟨rfl, hb⟩; obtain ⟨hc, hf⟩ := bcell hb)
  go_quiet (fail)
  go_wp2
  go_ret3
  exact ⟨ret3 rfl rfl (by show wrap64 (a - 2 * (2 * q + 148)) = _; unfold wrap64; have := HS.out; omega), (by repeat (first | (with_reducible exact below_step (below_alloc (Below.refl _ _) _) hb) | apply pw_below_drewN | apply below_drew1))⟩

set_option maxHeartbeats 2000000 in
set_option maxRecDepth 100000 in
theorem what_table (k : Nat) (q a : Int) (w : World) (h4 : 4 ≤ q) (h9 : q ≤ 900) (ha : 0 ≤ a) (hs : a < 4 * q + 316) (b i : Int) (hb0 : 0 ≤ b) (hb1 : b ≤ 1) (hi0 : 0 ≤ i) (hi1 : i < 2 * q + 148) (hd : Int.tdiv a (2 * q + 148) = b) (hm : Int.tmod a (2 * q + 148) = i) (h1 : a < 2 * (2 * q + 148)) (h2 : i < 2) (hq : geom_Quota.f k (4 * q + 316) (2 * q + 148) 2 4 28 (2 * q + 120) = some q) :
    Calls Try.prog 30 #[.agg #[.int .i64 (4 * q + 316), .int .i64 (2 * q + 148), .int .i64 2, .int .i64 4, .int .i64 28, .int .i64 (2 * q + 120)], .int .i64 a] w fun e w' =>
      e = .returned (.tuple #[.int .i64 1, .int .i64 b, .int .i64 (i - 0)]) ∧ Below w.heap.size w w' := by
  have c : decide (a < 0) = false := decide_eq_false (by omega)
  have c2 : decide (4 * q + 316 ≤ a) = false := decide_eq_false (by omega)
  have c3 : (q == 0) = false := by rw [beq_eq_false_iff_ne]; omega
  have c4 : decide (2 * (2 * q + 148) ≤ a) = false := decide_eq_false (by omega)
  have c5 : ((2 * q + 148) == 0) = false := by rw [beq_eq_false_iff_ne]; omega
  have c6 : decide (28 ≤ i) = false := decide_eq_false (by omega)
  have c7 : decide (4 ≤ i) = false := decide_eq_false (by omega)
  have c8 : decide (2 ≤ i) = false := decide_eq_false (by omega)
  have ed : a / (2 * q + 148) = b := by rw [← Int.tdiv_eq_ediv_of_nonneg ha]; exact hd
  have em : a % (2 * q + 148) = i := by rw [← Int.tmod_eq_emod_of_nonneg ha]; exact hm
  clear hd hm
  have HQ := Lib.hid hq
  clear hq
  generalize hS : 4 * q + 316 = S at *
  generalize hZ : 2 * q + 120 = Z at *
  have HS := Lib.hid hS
  have HZ := Lib.hid hZ
  clear hS hZ
  go_enter Try.func30, Try.ntmps30
  go_wp2_with (go_at_call 32; (with_reducible refine (geom_Quota.calls k S (2 * q + 148) 2 4 28 Z q _ HQ.out).mono ?_); rintro e w7 ⟨rfl, hb⟩; obtain ⟨hc, hf⟩ := bcell hb)
  go_quiet (fail)
  go_wp2
  go_ret3
  exact ⟨ret3 (by first | rfl | (simp; done) | decide) (by first | rfl | (simp; done) | assumption | (show wrap64 b = b; unfold wrap64; omega) | (show wrap64 _ = b; rw [ed]; unfold wrap64; omega)) (by first | rfl | (simp; done) | (show wrap64 (i - 0) = _; unfold wrap64; omega) | (show wrap64 _ = _; unfold wrap64; omega)), (by repeat (first | (with_reducible exact below_step (below_alloc (Below.refl _ _) _) hb) | apply pw_below_drewN | apply below_drew1))⟩

set_option maxHeartbeats 2000000 in
set_option maxRecDepth 100000 in
theorem what_root (k : Nat) (q a : Int) (w : World) (h4 : 4 ≤ q) (h9 : q ≤ 900) (ha : 0 ≤ a) (hs : a < 4 * q + 316) (b i : Int) (hb0 : 0 ≤ b) (hb1 : b ≤ 1) (hi0 : 0 ≤ i) (hi1 : i < 2 * q + 148) (hd : Int.tdiv a (2 * q + 148) = b) (hm : Int.tmod a (2 * q + 148) = i) (h1 : a < 2 * (2 * q + 148)) (h2 : 2 ≤ i) (h3 : i < 4) (hq : geom_Quota.f k (4 * q + 316) (2 * q + 148) 2 4 28 (2 * q + 120) = some q) :
    Calls Try.prog 30 #[.agg #[.int .i64 (4 * q + 316), .int .i64 (2 * q + 148), .int .i64 2, .int .i64 4, .int .i64 28, .int .i64 (2 * q + 120)], .int .i64 a] w fun e w' =>
      e = .returned (.tuple #[.int .i64 2, .int .i64 b, .int .i64 (i - 2)]) ∧ Below w.heap.size w w' := by
  have c : decide (a < 0) = false := decide_eq_false (by omega)
  have c2 : decide (4 * q + 316 ≤ a) = false := decide_eq_false (by omega)
  have c3 : (q == 0) = false := by rw [beq_eq_false_iff_ne]; omega
  have c4 : decide (2 * (2 * q + 148) ≤ a) = false := decide_eq_false (by omega)
  have c5 : ((2 * q + 148) == 0) = false := by rw [beq_eq_false_iff_ne]; omega
  have c6 : decide (28 ≤ i) = false := decide_eq_false (by omega)
  have c7 : decide (4 ≤ i) = false := decide_eq_false (by omega)
  have c8 : decide (2 ≤ i) = true := decide_eq_true (by omega)
  have ed : a / (2 * q + 148) = b := by rw [← Int.tdiv_eq_ediv_of_nonneg ha]; exact hd
  have em : a % (2 * q + 148) = i := by rw [← Int.tmod_eq_emod_of_nonneg ha]; exact hm
  clear hd hm
  have HQ := Lib.hid hq
  clear hq
  generalize hS : 4 * q + 316 = S at *
  generalize hZ : 2 * q + 120 = Z at *
  have HS := Lib.hid hS
  have HZ := Lib.hid hZ
  clear hS hZ
  go_enter Try.func30, Try.ntmps30
  go_wp2_with (go_at_call 32; (with_reducible refine (geom_Quota.calls k S (2 * q + 148) 2 4 28 Z q _ HQ.out).mono ?_); rintro e w7 ⟨rfl, hb⟩; obtain ⟨hc, hf⟩ := bcell hb)
  go_quiet (fail)
  go_wp2
  go_ret3
  exact ⟨ret3 (by first | rfl | (simp; done) | decide) (by first | rfl | (simp; done) | assumption | (show wrap64 b = b; unfold wrap64; omega) | (show wrap64 _ = b; rw [ed]; unfold wrap64; omega)) (by first | rfl | (simp; done) | (show wrap64 (i - 2) = _; unfold wrap64; omega) | (show wrap64 _ = _; unfold wrap64; omega)), (by repeat (first | (with_reducible exact below_step (below_alloc (Below.refl _ _) _) hb) | apply pw_below_drewN | apply below_drew1))⟩

set_option maxHeartbeats 2000000 in
set_option maxRecDepth 100000 in
theorem what_log (k : Nat) (q a : Int) (w : World) (h4 : 4 ≤ q) (h9 : q ≤ 900) (ha : 0 ≤ a) (hs : a < 4 * q + 316) (b i : Int) (hb0 : 0 ≤ b) (hb1 : b ≤ 1) (hi0 : 0 ≤ i) (hi1 : i < 2 * q + 148) (hd : Int.tdiv a (2 * q + 148) = b) (hm : Int.tmod a (2 * q + 148) = i) (h1 : a < 2 * (2 * q + 148)) (h2 : 4 ≤ i) (h3 : i < 28) (hq : geom_Quota.f k (4 * q + 316) (2 * q + 148) 2 4 28 (2 * q + 120) = some q) :
    Calls Try.prog 30 #[.agg #[.int .i64 (4 * q + 316), .int .i64 (2 * q + 148), .int .i64 2, .int .i64 4, .int .i64 28, .int .i64 (2 * q + 120)], .int .i64 a] w fun e w' =>
      e = .returned (.tuple #[.int .i64 3, .int .i64 b, .int .i64 (i - 4)]) ∧ Below w.heap.size w w' := by
  have c : decide (a < 0) = false := decide_eq_false (by omega)
  have c2 : decide (4 * q + 316 ≤ a) = false := decide_eq_false (by omega)
  have c3 : (q == 0) = false := by rw [beq_eq_false_iff_ne]; omega
  have c4 : decide (2 * (2 * q + 148) ≤ a) = false := decide_eq_false (by omega)
  have c5 : ((2 * q + 148) == 0) = false := by rw [beq_eq_false_iff_ne]; omega
  have c6 : decide (28 ≤ i) = false := decide_eq_false (by omega)
  have c7 : decide (4 ≤ i) = true := decide_eq_true (by omega)
  have ed : a / (2 * q + 148) = b := by rw [← Int.tdiv_eq_ediv_of_nonneg ha]; exact hd
  have em : a % (2 * q + 148) = i := by rw [← Int.tmod_eq_emod_of_nonneg ha]; exact hm
  clear hd hm
  have HQ := Lib.hid hq
  clear hq
  generalize hS : 4 * q + 316 = S at *
  generalize hZ : 2 * q + 120 = Z at *
  have HS := Lib.hid hS
  have HZ := Lib.hid hZ
  clear hS hZ
  go_enter Try.func30, Try.ntmps30
  go_wp2_with (go_at_call 32; (with_reducible refine (geom_Quota.calls k S (2 * q + 148) 2 4 28 Z q _ HQ.out).mono ?_); rintro e w7 ⟨rfl, hb⟩; obtain ⟨hc, hf⟩ := bcell hb)
  go_quiet (fail)
  go_wp2
  go_ret3
  exact ⟨ret3 (by first | rfl | (simp; done) | decide) (by first | rfl | (simp; done) | assumption | (show wrap64 b = b; unfold wrap64; omega) | (show wrap64 _ = b; rw [ed]; unfold wrap64; omega)) (by first | rfl | (simp; done) | (show wrap64 (i - 4) = _; unfold wrap64; omega) | (show wrap64 _ = _; unfold wrap64; omega)), (by repeat (first | (with_reducible exact below_step (below_alloc (Below.refl _ _) _) hb) | apply pw_below_drewN | apply below_drew1))⟩

set_option maxHeartbeats 2000000 in
set_option maxRecDepth 100000 in
theorem what_region (k : Nat) (q a : Int) (w : World) (h4 : 4 ≤ q) (h9 : q ≤ 900) (ha : 0 ≤ a) (hs : a < 4 * q + 316) (b i : Int) (hb0 : 0 ≤ b) (hb1 : b ≤ 1) (hi0 : 0 ≤ i) (hi1 : i < 2 * q + 148) (hd : Int.tdiv a (2 * q + 148) = b) (hm : Int.tmod a (2 * q + 148) = i) (h1 : a < 2 * (2 * q + 148)) (h2 : 28 ≤ i) (hq : geom_Quota.f k (4 * q + 316) (2 * q + 148) 2 4 28 (2 * q + 120) = some q) :
    Calls Try.prog 30 #[.agg #[.int .i64 (4 * q + 316), .int .i64 (2 * q + 148), .int .i64 2, .int .i64 4, .int .i64 28, .int .i64 (2 * q + 120)], .int .i64 a] w fun e w' =>
      e = .returned (.tuple #[.int .i64 4, .int .i64 b, .int .i64 (i - 28)]) ∧ Below w.heap.size w w' := by
  have c : decide (a < 0) = false := decide_eq_false (by omega)
  have c2 : decide (4 * q + 316 ≤ a) = false := decide_eq_false (by omega)
  have c3 : (q == 0) = false := by rw [beq_eq_false_iff_ne]; omega
  have c4 : decide (2 * (2 * q + 148) ≤ a) = false := decide_eq_false (by omega)
  have c5 : ((2 * q + 148) == 0) = false := by rw [beq_eq_false_iff_ne]; omega
  have c6 : decide (28 ≤ i) = true := decide_eq_true (by omega)
  have ed : a / (2 * q + 148) = b := by rw [← Int.tdiv_eq_ediv_of_nonneg ha]; exact hd
  have em : a % (2 * q + 148) = i := by rw [← Int.tmod_eq_emod_of_nonneg ha]; exact hm
  clear hd hm
  have HQ := Lib.hid hq
  clear hq
  generalize hS : 4 * q + 316 = S at *
  generalize hZ : 2 * q + 120 = Z at *
  have HS := Lib.hid hS
  have HZ := Lib.hid hZ
  clear hS hZ
  go_enter Try.func30, Try.ntmps30
  go_wp2_with (go_at_call 32; (with_reducible refine (geom_Quota.calls k S (2 * q + 148) 2 4 28 Z q _ HQ.out).mono ?_); rintro e w7 ⟨rfl, hb⟩; obtain ⟨hc, hf⟩ := bcell hb)
  go_quiet (fail)
  go_wp2
  go_ret3
  exact ⟨ret3 (by first | rfl | (simp; done) | decide) (by first | rfl | (simp; done) | assumption | (show wrap64 b = b; unfold wrap64; omega) | (show wrap64 _ = b; rw [ed]; unfold wrap64; omega)) (by first | rfl | (simp; done) | (show wrap64 (i - 28) = _; unfold wrap64; omega) | (show wrap64 _ = _; unfold wrap64; omega)), (by repeat (first | (with_reducible exact below_step (below_alloc (Below.refl _ _) _) hb) | apply pw_below_drewN | apply below_drew1))⟩



theorem what_calls {q : Int} (h4 : 4 ≤ q) (h9 : q ≤ 900) (a : Int) (w : World) :
    Calls Try.prog 30 #[.agg #[.int .i64 (4 * q + 316), .int .i64 (2 * q + 148), .int .i64 2, .int .i64 4, .int .i64 28, .int .i64 (2 * q + 120)], .int .i64 a] w fun e w' =>
      e = .returned (.tuple #[.int .i64 (goWhat (2 * q + 148) (4 * q + 316) a).1, .int .i64 (goWhat (2 * q + 148) (4 * q + 316) a).2.1, .int .i64 (goWhat (2 * q + 148) (4 * q + 316) a).2.2]) ∧ Below w.heap.size w w' := by
  have hq := go_quota h4 h9 1
  unfold goWhat
  by_cases h1 : a < 0
  · rw [if_pos h1]; exact what_neg _ _ _ _ _ _ _ _ h1
  rw [if_neg h1]
  by_cases h2 : a ≥ 4 * q + 316
  · rw [if_pos h2]; exact what_far _ _ _ _ _ _ _ _ (by omega) h2
  rw [if_neg h2]
  by_cases h3 : a ≥ 2 * (2 * q + 148)
  · rw [if_pos h3]; exact what_spare 2 q a w h4 h9 (by omega) (by omega) h3 hq
  rw [if_neg h3]
  by_cases h5 : a < 2 * q + 148
  · obtain ⟨d1, d2⟩ := go_div a (2 * q + 148) 0 a (by omega) (by omega) (by omega) h5 (by omega)
    rw [if_pos h5]
    by_cases h6 : a ≥ 28
    · rw [if_pos h6]; exact what_region 2 q a w h4 h9 (by omega) (by omega) 0 a (by omega) (by omega) (by omega) h5 d1 d2 (by omega) h6 hq
    rw [if_neg h6]
    by_cases h7 : a ≥ 4
    · rw [if_pos h7]; exact what_log 2 q a w h4 h9 (by omega) (by omega) 0 a (by omega) (by omega) (by omega) h5 d1 d2 (by omega) h7 (by omega) hq
    rw [if_neg h7]
    by_cases h8 : a ≥ 2
    · rw [if_pos h8]; exact what_root 2 q a w h4 h9 (by omega) (by omega) 0 a (by omega) (by omega) (by omega) h5 d1 d2 (by omega) h8 (by omega) hq
    rw [if_neg h8]
    have := what_table 2 q a w h4 h9 (by omega) (by omega) 0 a (by omega) (by omega) (by omega) h5 d1 d2 (by omega) (by omega) hq
    rw [Int.sub_zero] at this
    exact this
  · obtain ⟨d1, d2⟩ := go_div a (2 * q + 148) 1 (a - (2 * q + 148)) (by omega) (by omega) (by omega) (by omega) (by omega)
    rw [if_neg h5]
    by_cases h6 : a - (2 * q + 148) ≥ 28
    · rw [if_pos h6]; exact what_region 2 q a w h4 h9 (by omega) (by omega) 1 _ (by omega) (by omega) (by omega) (by omega) d1 d2 (by omega) h6 hq
    rw [if_neg h6]
    by_cases h7 : a - (2 * q + 148) ≥ 4
    · rw [if_pos h7]; exact what_log 2 q a w h4 h9 (by omega) (by omega) 1 _ (by omega) (by omega) (by omega) (by omega) d1 d2 (by omega) h7 (by omega) hq
    rw [if_neg h7]
    by_cases h8 : a - (2 * q + 148) ≥ 2
    · rw [if_pos h8]; exact what_root 2 q a w h4 h9 (by omega) (by omega) 1 _ (by omega) (by omega) (by omega) (by omega) d1 d2 (by omega) h8 (by omega) hq
    rw [if_neg h8]
    have := what_table 2 q a w h4 h9 (by omega) (by omega) 1 _ (by omega) (by omega) (by omega) (by omega) d1 d2 (by omega) (by omega) hq
    rw [Int.sub_zero] at this
    exact this
end Go.Proofs.Ytkajbhkhecoccaa.GeoWhat
