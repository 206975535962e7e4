/- The reference's layouts: the walks of lazaretref08.ForQuota, ForSectors, Quota and of geom.ForSectors. -/
import Derived.Test.YtkajbhkhecoccaaGeoWhat
import Derived.Outline
set_option linter.unusedVariables false
set_option linter.unusedSimpArgs false
namespace Go.Proofs.Ytkajbhkhecoccaa.GeoRef
open Go.RowKit Go.Proofs.Ytkajbhkhecoccaa.PGeomOnce Go.Proofs.YtkajbhkhecoccaaW.PrintWords Go.Proofs.YtkajbhkhecoccaaW.PrintLast Go.Proofs.YtkajbhkhecoccaaW.PrintMore Go.Proofs.Ytkajbhkhecoccaa.GeoWhat


/-- the end of a function whose results are a struct in memory and a number -/
theorem fin_ct {P : Program} {fn : Func} {R : Ending → World → Prop} {a : Act} {w : World} {p u : Tmp} {ty : TypeId} (g : Nat) (t : TypeId) (cs : Array Value) (x : Value) {d : TypeDesc}
    (h : fn.results = #[.cell p ty, .tmp u]) (hp : a.tmps.getD p undef = .pointer (some ⟨g, 0, none⟩)) (hx : a.tmps.getD u undef = x) (hds : a.defers = [])
    (hu : P.underlying ty = some d) (hd : (match d with | .struct _ | .array _ _ => true | _ => false) = true) (hi : (P.info? ty).map (·.size) = some cs.size)
    (hg : w.heap[g]? = some (.cells cs t (0, 0))) (hR : R (.returned (.tuple #[.agg cs, x])) w) : bodyPost P fn R .ret a w := by
  subst hx
  exact bodyPost_ret (results_ct h _ _ g t cs (0, 0) d hp hg hu hd hi) hds hR

/-- S and Z are the layout's, of the quota q -/
structure Lay (q S Z : Int) : Prop where
  lo : 4 ≤ q
  hi : q ≤ 900
  s : 4 * q + 316 = S
  z : 2 * q + 120 = Z

set_option maxHeartbeats 2000000 in
set_option maxRecDepth 100000 in
theorem fq_low (q : Int) (w : World) (h : q < 4) :
    Calls Try.prog 19 #[.int .i64 q] w fun e w' => e = .returned (.tuple #[.agg #[.int .i64 0, .int .i64 0, .int .i64 0, .int .i64 0, .int .i64 0, .int .i64 0], .int .i64 1]) ∧ Below w.heap.size w w' := by
  have c : decide (q < 4) = true := decide_eq_true h
  go_enter Try.func19, Try.ntmps19
  go_wp2
  refine fin_ct (w.heap.size) 31 #[.int .i64 0, .int .i64 0, .int .i64 0, .int .i64 0, .int .i64 0, .int .i64 0] (.int .i64 1) (by rfl) (by rfl) (by rfl) (by rfl) Try.underlying31 (by rfl) (by kernel_rfl) ?_ ?_
  · exact blk_new _ _
  · exact ⟨rfl, below_alloc (Below.refl _ _) _⟩

set_option maxHeartbeats 2000000 in
set_option maxRecDepth 100000 in
theorem fq_high (q : Int) (w : World) (h : 900 < q) :
    Calls Try.prog 19 #[.int .i64 q] w fun e w' => e = .returned (.tuple #[.agg #[.int .i64 0, .int .i64 0, .int .i64 0, .int .i64 0, .int .i64 0, .int .i64 0], .int .i64 1]) ∧ Below w.heap.size w w' := by
  have c : decide (q < 4) = false := decide_eq_false (by omega)
  have c2 : decide (900 < q) = true := decide_eq_true h
  go_enter Try.func19, Try.ntmps19
  go_wp2
  refine fin_ct (w.heap.size) 31 #[.int .i64 0, .int .i64 0, .int .i64 0, .int .i64 0, .int .i64 0, .int .i64 0] (.int .i64 1) (by rfl) (by rfl) (by rfl) (by rfl) Try.underlying31 (by rfl) (by kernel_rfl) ?_ ?_
  · exact blk_new _ _
  · exact ⟨rfl, below_alloc (Below.refl _ _) _⟩

set_option maxHeartbeats 2000000 in
set_option maxRecDepth 100000 in
theorem fq_good0 (q : Int) (w : World) (h1 : 4 ≤ q) (h2 : q ≤ 900) :
    Calls Try.prog 19 #[.int .i64 q] w fun e w' => e = .returned (.tuple #[.agg #[.int .i64 (2 * (28 + (2 * q + 120)) + 20), .int .i64 (28 + (2 * q + 120)), .int .i64 2, .int .i64 4, .int .i64 28, .int .i64 (2 * q + 120)], .int .i64 0]) ∧ Below w.heap.size w w' := by
  have c : decide (q < 4) = false := decide_eq_false (by omega)
  have c2 : decide (900 < q) = false := decide_eq_false (by omega)
  go_enter Try.func19, Try.ntmps19
  go_wp2
  refine fin_ct (w.heap.size) 31 #[.int .i64 (2 * (28 + (2 * q + 120)) + 20), .int .i64 (28 + (2 * q + 120)), .int .i64 2, .int .i64 4, .int .i64 28, .int .i64 (2 * q + 120)] (.int .i64 0) (by rfl) (by rfl) (by rfl) (by rfl) Try.underlying31 (by rfl) (by kernel_rfl) ?_ ?_
  · first | exact blk_new _ _ | exact blk_alloc (blk_new _ _) _
  · exact ⟨rfl, below_alloc (below_alloc (Below.refl _ _) _) _⟩

theorem fq_good {q S Z : Int} (L : Lay q S Z) (w : World) :
    Calls Try.prog 19 #[.int .i64 q] w fun e w' => e = .returned (.tuple #[.agg #[.int .i64 S, .int .i64 (2 * q + 148), .int .i64 2, .int .i64 4, .int .i64 28, .int .i64 Z], .int .i64 0]) ∧ Below w.heap.size w w' := by
  obtain ⟨h1, h2, rfl, rfl⟩ := L
  have := fq_good0 q w h1 h2
  rw [show 2 * (28 + (2 * q + 120)) + 20 = 4 * q + 316 by omega, show 28 + (2 * q + 120) = 2 * q + 148 by omega] at this
  exact this

/-- geom's own, with S and Z -/
theorem quota_named {q S Z : Int} (h : Lay q S Z) : geom_ForQuota.f q = some (S, 2 * q + 148, 2, 4, 28, Z, 0) := by
  obtain ⟨h1, h2, rfl, rfl⟩ := h
  exact go_fq_good h1 h2

/-! ### geom.ForSectors -/

set_option maxHeartbeats 2000000 in
set_option maxRecDepth 100000 in
theorem fs_neg (n : Int) (h : n < 0) (w : World) :
    Calls Try.prog 20 #[.int .i64 n] w fun e w' => e = .returned (.tuple #[.agg #[.int .i64 0, .int .i64 0, .int .i64 0, .int .i64 0, .int .i64 0, .int .i64 0], .int .i64 1]) ∧ Below w.heap.size w w' := by
  have c : decide (n < 0) = true := decide_eq_true h
  go_enter Try.func20, Try.ntmps20
  go_wp2_with (fail)
  refine fin_ct (w.heap.size) 31 #[.int .i64 0, .int .i64 0, .int .i64 0, .int .i64 0, .int .i64 0, .int .i64 0] (.int .i64 1) (by rfl) (by rfl) (by rfl) (by rfl) Try.underlying31 (by rfl) (by kernel_rfl) ?_ ?_
  · exact blk_new _ _
  · exact ⟨rfl, below_alloc (Below.refl _ _) _⟩

set_option maxHeartbeats 2000000 in
set_option maxRecDepth 100000 in
theorem fs_bad (n : Int) (h : 0 ≤ n) (hn : n ≤ 9223372036854775807) (t : Int) (ht : Int.tdiv (n - 20 - 296) 4 = t) (ht1 : -1000 ≤ t) (ht2 : t ≤ 4611686018427387904) (hq : geom_ForQuota.f t = some (0, 0, 0, 0, 0, 0, 1)) (w : World) :
    Calls Try.prog 20 #[.int .i64 n] w fun e w' => e = .returned (.tuple #[.agg #[.int .i64 0, .int .i64 0, .int .i64 0, .int .i64 0, .int .i64 0, .int .i64 0], .int .i64 1]) ∧ Below w.heap.size w w' := by
  have c : decide (n < 0) = false := decide_eq_false (by omega)
  have HQ := Lib.hid hq
  clear hq
  go_enter Try.func20, Try.ntmps20
  go_wp2_with (go_at_call 18; (with_reducible refine (geom_ForQuota.calls t 0 0 0 0 0 0 1 _ HQ.out).mono ?_); rintro e w1 ⟨rfl, hb⟩; obtain ⟨hc, hf⟩ := bcell hb; have hz : w.heap.size < w1.heap.size := by { have := hb.size; simp at this; omega })
  have hp : w1.heap[w.heap.size]? = some (.cells #[.int .i64 0, .int .i64 0, .int .i64 0, .int .i64 0, .int .i64 0, .int .i64 0] 31 (0, 0)) := blk_below (blk_new _ _) hb
  refine fin_ct (w.heap.size) 31 #[.int .i64 0, .int .i64 0, .int .i64 0, .int .i64 0, .int .i64 0, .int .i64 0] (.int .i64 1) (by rfl) (by rfl) (by rfl) (by rfl) Try.underlying31 (by rfl) (by kernel_rfl) ?_ ?_
  · (with_reducible repeat (first | refine blk_drewN ?_ _ | refine blk_drew ?_ | refine blk_alloc ?_ _)); refine blk_put (cs := #[.int .i64 0, .int .i64 0, .int .i64 0, .int .i64 0, .int .i64 0, .int .i64 0]) ?_ 5 _ (by rfl); (with_reducible repeat (first | refine blk_drewN ?_ _ | refine blk_drew ?_ | refine blk_alloc ?_ _)); refine blk_put (cs := #[.int .i64 0, .int .i64 0, .int .i64 0, .int .i64 0, .int .i64 0, .int .i64 0]) ?_ 4 _ (by rfl); (with_reducible repeat (first | refine blk_drewN ?_ _ | refine blk_drew ?_ | refine blk_alloc ?_ _)); refine blk_put (cs := #[.int .i64 0, .int .i64 0, .int .i64 0, .int .i64 0, .int .i64 0, .int .i64 0]) ?_ 3 _ (by rfl); (with_reducible repeat (first | refine blk_drewN ?_ _ | refine blk_drew ?_ | refine blk_alloc ?_ _)); refine blk_put (cs := #[.int .i64 0, .int .i64 0, .int .i64 0, .int .i64 0, .int .i64 0, .int .i64 0]) ?_ 2 _ (by rfl); (with_reducible repeat (first | refine blk_drewN ?_ _ | refine blk_drew ?_ | refine blk_alloc ?_ _)); refine blk_put (cs := #[.int .i64 0, .int .i64 0, .int .i64 0, .int .i64 0, .int .i64 0, .int .i64 0]) ?_ 1 _ (by rfl); (with_reducible repeat (first | refine blk_drewN ?_ _ | refine blk_drew ?_ | refine blk_alloc ?_ _)); refine blk_put (cs := #[.int .i64 0, .int .i64 0, .int .i64 0, .int .i64 0, .int .i64 0, .int .i64 0]) ?_ 0 _ (by rfl); (with_reducible repeat (first | refine blk_drewN ?_ _ | refine blk_drew ?_ | refine blk_alloc ?_ _)); with_reducible exact hp
  · exact ⟨rfl, (by (repeat (with_reducible first | refine below_alloc ?_ _ | refine below_set ?_ (Nat.le_refl _))); exact below_step (below_alloc (Below.refl _ _) _) hb)⟩

set_option maxHeartbeats 2000000 in
set_option maxRecDepth 100000 in
theorem fs_other (n : Int) (h : 0 ≤ n) (hn : n ≤ 9223372036854775807) (t S Z : Int) (ht : Int.tdiv (n - 20 - 296) 4 = t) (L : Lay t S Z) (hne : S ≠ n) (w : World) :
    Calls Try.prog 20 #[.int .i64 n] w fun e w' => e = .returned (.tuple #[.agg #[.int .i64 0, .int .i64 0, .int .i64 0, .int .i64 0, .int .i64 0, .int .i64 0], .int .i64 1]) ∧ Below w.heap.size w w' := by
  have c : decide (n < 0) = false := decide_eq_false (by omega)
  have c2 : (S != n) = true := bne_iff_ne.mpr hne
  have ht1 : -1000 ≤ t := by have := L.lo; omega
  have ht2 : t ≤ 4611686018427387904 := by have := L.hi; omega
  have HQ := Lib.hid (quota_named L)
  clear L
  go_enter Try.func20, Try.ntmps20
  go_wp2_with (go_at_call 18; (with_reducible refine (geom_ForQuota.calls t S (2 * t + 148) 2 4 28 Z 0 _ HQ.out).mono ?_); rintro e w1 ⟨rfl, hb⟩; obtain ⟨hc, hf⟩ := bcell hb; have hz : w.heap.size < w1.heap.size := by { have := hb.size; simp at this; omega })
  have hp : w1.heap[w.heap.size]? = some (.cells #[.int .i64 0, .int .i64 0, .int .i64 0, .int .i64 0, .int .i64 0, .int .i64 0] 31 (0, 0)) := blk_below (blk_new _ _) hb
  refine fin_ct (w.heap.size) 31 #[.int .i64 0, .int .i64 0, .int .i64 0, .int .i64 0, .int .i64 0, .int .i64 0] (.int .i64 1) (by rfl) (by rfl) (by rfl) (by rfl) Try.underlying31 (by rfl) (by kernel_rfl) ?_ ?_
  · (with_reducible repeat (first | refine blk_drewN ?_ _ | refine blk_drew ?_ | refine blk_alloc ?_ _)); refine blk_put (cs := #[.int .i64 0, .int .i64 0, .int .i64 0, .int .i64 0, .int .i64 0, .int .i64 0]) ?_ 5 _ (by rfl); (with_reducible repeat (first | refine blk_drewN ?_ _ | refine blk_drew ?_ | refine blk_alloc ?_ _)); refine blk_put (cs := #[.int .i64 0, .int .i64 0, .int .i64 0, .int .i64 0, .int .i64 0, .int .i64 0]) ?_ 4 _ (by rfl); (with_reducible repeat (first | refine blk_drewN ?_ _ | refine blk_drew ?_ | refine blk_alloc ?_ _)); refine blk_put (cs := #[.int .i64 0, .int .i64 0, .int .i64 0, .int .i64 0, .int .i64 0, .int .i64 0]) ?_ 3 _ (by rfl); (with_reducible repeat (first | refine blk_drewN ?_ _ | refine blk_drew ?_ | refine blk_alloc ?_ _)); refine blk_put (cs := #[.int .i64 0, .int .i64 0, .int .i64 0, .int .i64 0, .int .i64 0, .int .i64 0]) ?_ 2 _ (by rfl); (with_reducible repeat (first | refine blk_drewN ?_ _ | refine blk_drew ?_ | refine blk_alloc ?_ _)); refine blk_put (cs := #[.int .i64 0, .int .i64 0, .int .i64 0, .int .i64 0, .int .i64 0, .int .i64 0]) ?_ 1 _ (by rfl); (with_reducible repeat (first | refine blk_drewN ?_ _ | refine blk_drew ?_ | refine blk_alloc ?_ _)); refine blk_put (cs := #[.int .i64 0, .int .i64 0, .int .i64 0, .int .i64 0, .int .i64 0, .int .i64 0]) ?_ 0 _ (by rfl); (with_reducible repeat (first | refine blk_drewN ?_ _ | refine blk_drew ?_ | refine blk_alloc ?_ _)); with_reducible exact hp
  · exact ⟨rfl, (by (repeat (with_reducible first | refine below_alloc ?_ _ | refine below_set ?_ (Nat.le_refl _))); exact below_step (below_alloc (Below.refl _ _) _) hb)⟩

set_option maxHeartbeats 2000000 in
set_option maxRecDepth 100000 in
theorem fs_good (n : Int) (h : 0 ≤ n) (hn : n ≤ 9223372036854775807) (t Z : Int) (ht : Int.tdiv (n - 20 - 296) 4 = t) (L : Lay t n Z) (w : World) :
    Calls Try.prog 20 #[.int .i64 n] w fun e w' => e = .returned (.tuple #[.agg #[.int .i64 n, .int .i64 (2 * t + 148), .int .i64 2, .int .i64 4, .int .i64 28, .int .i64 Z], .int .i64 0]) ∧ Below w.heap.size w w' := by
  have c : decide (n < 0) = false := decide_eq_false (by omega)
  have c2 : (n != n) = false := by simp
  have ht1 : -1000 ≤ t := by have := L.lo; omega
  have ht2 : t ≤ 4611686018427387904 := by have := L.hi; omega
  have HQ := Lib.hid (quota_named L)
  clear L
  go_enter Try.func20, Try.ntmps20
  go_wp2_with (go_at_call 18; (with_reducible refine (geom_ForQuota.calls t n (2 * t + 148) 2 4 28 Z 0 _ HQ.out).mono ?_); rintro e w1 ⟨rfl, hb⟩; obtain ⟨hc, hf⟩ := bcell hb; have hz : w.heap.size < w1.heap.size := by { have := hb.size; simp at this; omega })
  have hp : w1.heap[w.heap.size]? = some (.cells #[.int .i64 0, .int .i64 0, .int .i64 0, .int .i64 0, .int .i64 0, .int .i64 0] 31 (0, 0)) := blk_below (blk_new _ _) hb
  refine fin_ct (w.heap.size) 31 #[.int .i64 n, .int .i64 (2 * t + 148), .int .i64 2, .int .i64 4, .int .i64 28, .int .i64 Z] (.int .i64 0) (by rfl) (by rfl) (by rfl) (by rfl) Try.underlying31 (by rfl) (by kernel_rfl) ?_ ?_
  · (with_reducible repeat (first | refine blk_drewN ?_ _ | refine blk_drew ?_ | refine blk_alloc ?_ _)); refine blk_put (cs := #[.int .i64 n, .int .i64 (2 * t + 148), .int .i64 2, .int .i64 4, .int .i64 28, .int .i64 0]) ?_ 5 _ (by rfl); (with_reducible repeat (first | refine blk_drewN ?_ _ | refine blk_drew ?_ | refine blk_alloc ?_ _)); refine blk_put (cs := #[.int .i64 n, .int .i64 (2 * t + 148), .int .i64 2, .int .i64 4, .int .i64 0, .int .i64 0]) ?_ 4 _ (by rfl); (with_reducible repeat (first | refine blk_drewN ?_ _ | refine blk_drew ?_ | refine blk_alloc ?_ _)); refine blk_put (cs := #[.int .i64 n, .int .i64 (2 * t + 148), .int .i64 2, .int .i64 0, .int .i64 0, .int .i64 0]) ?_ 3 _ (by rfl); (with_reducible repeat (first | refine blk_drewN ?_ _ | refine blk_drew ?_ | refine blk_alloc ?_ _)); refine blk_put (cs := #[.int .i64 n, .int .i64 (2 * t + 148), .int .i64 0, .int .i64 0, .int .i64 0, .int .i64 0]) ?_ 2 _ (by rfl); (with_reducible repeat (first | refine blk_drewN ?_ _ | refine blk_drew ?_ | refine blk_alloc ?_ _)); refine blk_put (cs := #[.int .i64 n, .int .i64 0, .int .i64 0, .int .i64 0, .int .i64 0, .int .i64 0]) ?_ 1 _ (by rfl); (with_reducible repeat (first | refine blk_drewN ?_ _ | refine blk_drew ?_ | refine blk_alloc ?_ _)); refine blk_put (cs := #[.int .i64 0, .int .i64 0, .int .i64 0, .int .i64 0, .int .i64 0, .int .i64 0]) ?_ 0 _ (by rfl); (with_reducible repeat (first | refine blk_drewN ?_ _ | refine blk_drew ?_ | refine blk_alloc ?_ _)); with_reducible exact hp
  · exact ⟨rfl, (by (repeat (with_reducible first | refine below_alloc ?_ _ | refine below_set ?_ (Nat.le_refl _))); exact below_step (below_alloc (Below.refl _ _) _) hb)⟩

/-! ### lazaretref08.ForSectors -/
set_option maxHeartbeats 2000000 in
set_option maxRecDepth 100000 in
theorem fsr_good {q S Z : Int} (L : Lay q S Z) (w : World) :
    Calls Try.prog 21 #[.int .i64 S] w fun e w' => e = .returned (.tuple #[.agg #[.int .i64 S, .int .i64 (2 * q + 148), .int .i64 2, .int .i64 4, .int .i64 28, .int .i64 Z], .int .i64 0]) ∧ Below w.heap.size w w' := by
  obtain ⟨l1, l2, l3, l4⟩ := L
  have HS := Lib.hid l3
  have HZ := Lib.hid l4
  clear l3 l4
  go_enter Try.func21, Try.ntmps21
  go_wp2
  go_loopw [4] (fun i wr => ∃ k : Int, 4 ≤ k ∧ k ≤ q ∧ i = .int .i64 k ∧ wr.heap[w.heap.size]? = some (.cells #[.int .i64 0, .int .i64 0, .int .i64 0, .int .i64 0, .int .i64 0, .int .i64 0] 31 (0, 0)) ∧ Below w.heap.size w wr) (fun i _ => (901 - intOf i).toNat)
  case atStart => exact ⟨4, by omega, by omega, rfl, blk_new _ _, below_alloc (Below.refl _ _) _⟩
  case round =>
    obtain ⟨k, hk1, hk2, rfl, hp, hbel⟩ := hrel
    have c1 : decide (k ≤ 900) = true := decide_eq_true (by omega)
    have hp0 := hp
    have hzr : w.heap.size < wr.heap.size := blk_lt hp
    have hpc0 : wr.cell? ⟨w.heap.size, 0, none⟩ = some (.int .i64 0) := (blk_cell hp 0).trans rfl
    have hpf0 := blk_frozen hp 0
    have hpc1 : wr.cell? ⟨w.heap.size, 1, none⟩ = some (.int .i64 0) := (blk_cell hp 1).trans rfl
    have hpf1 := blk_frozen hp 1
    have hpc2 : wr.cell? ⟨w.heap.size, 2, none⟩ = some (.int .i64 0) := (blk_cell hp 2).trans rfl
    have hpf2 := blk_frozen hp 2
    have hpc3 : wr.cell? ⟨w.heap.size, 3, none⟩ = some (.int .i64 0) := (blk_cell hp 3).trans rfl
    have hpf3 := blk_frozen hp 3
    have hpc4 : wr.cell? ⟨w.heap.size, 4, none⟩ = some (.int .i64 0) := (blk_cell hp 4).trans rfl
    have hpf4 := blk_frozen hp 4
    have hpc5 : wr.cell? ⟨w.heap.size, 5, none⟩ = some (.int .i64 0) := (blk_cell hp 5).trans rfl
    have hpf5 := blk_frozen hp 5
    by_cases he : k = q
    · obtain rfl := he
      have HL : Hid (Lay k S Z) := Lib.hid ⟨l1, l2, HS.out, HZ.out⟩
      have c2 : (S == S) = true := by simp
      go_wp2_with (go_at_call 19; (with_reducible refine (fq_good HL.out _).mono ?_); rintro e w1 ⟨rfl, hb⟩; obtain ⟨hc, hf⟩ := bcell hb; have hz := hb.size; have hz2 : w.heap.size < w1.heap.size := Nat.lt_of_lt_of_le hzr hz)
      have hp1 := blk_below hp0 hb
      refine fin_ct (w.heap.size) 31 #[.int .i64 S, .int .i64 (2 * k + 148), .int .i64 2, .int .i64 4, .int .i64 28, .int .i64 Z] (.int .i64 0) (by rfl) (by rfl) (by rfl) (by rfl) Try.underlying31 (by rfl) (by kernel_rfl) ?_ ?_
      · (with_reducible repeat (first | refine blk_drewN ?_ _ | refine blk_drew ?_ | refine blk_alloc ?_ _)); refine blk_put (cs := #[.int .i64 S, .int .i64 (2 * k + 148), .int .i64 2, .int .i64 4, .int .i64 28, .int .i64 0]) ?_ 5 _ (by rfl); (with_reducible repeat (first | refine blk_drewN ?_ _ | refine blk_drew ?_ | refine blk_alloc ?_ _)); refine blk_put (cs := #[.int .i64 S, .int .i64 (2 * k + 148), .int .i64 2, .int .i64 4, .int .i64 0, .int .i64 0]) ?_ 4 _ (by rfl); (with_reducible repeat (first | refine blk_drewN ?_ _ | refine blk_drew ?_ | refine blk_alloc ?_ _)); refine blk_put (cs := #[.int .i64 S, .int .i64 (2 * k + 148), .int .i64 2, .int .i64 0, .int .i64 0, .int .i64 0]) ?_ 3 _ (by rfl); (with_reducible repeat (first | refine blk_drewN ?_ _ | refine blk_drew ?_ | refine blk_alloc ?_ _)); refine blk_put (cs := #[.int .i64 S, .int .i64 (2 * k + 148), .int .i64 0, .int .i64 0, .int .i64 0, .int .i64 0]) ?_ 2 _ (by rfl); (with_reducible repeat (first | refine blk_drewN ?_ _ | refine blk_drew ?_ | refine blk_alloc ?_ _)); refine blk_put (cs := #[.int .i64 S, .int .i64 0, .int .i64 0, .int .i64 0, .int .i64 0, .int .i64 0]) ?_ 1 _ (by rfl); (with_reducible repeat (first | refine blk_drewN ?_ _ | refine blk_drew ?_ | refine blk_alloc ?_ _)); refine blk_put (cs := #[.int .i64 0, .int .i64 0, .int .i64 0, .int .i64 0, .int .i64 0, .int .i64 0]) ?_ 0 _ (by rfl); (with_reducible repeat (first | refine blk_drewN ?_ _ | refine blk_drew ?_ | refine blk_alloc ?_ _)); with_reducible exact hp1
      · exact ⟨rfl, (by (repeat (with_reducible first | refine below_alloc ?_ _ | refine below_set ?_ (Nat.le_refl _))); exact below_step hbel hb)⟩

    · have HL : Hid (Lay k (4 * k + 316) (2 * k + 120)) := Lib.hid ⟨by omega, by omega, rfl, rfl⟩
      have c2 : (4 * k + 316 == S) = false := by have := HS.out; simp; omega
      go_wp2_with (go_at_call 19; (with_reducible refine (fq_good HL.out _).mono ?_); rintro e w1 ⟨rfl, hb⟩; obtain ⟨hc, hf⟩ := bcell hb; have hz := hb.size; have hz2 : w.heap.size < w1.heap.size := Nat.lt_of_lt_of_le hzr hz)
      go_roundw
      case rel => exact ⟨k + 1, by omega, by omega, by go_num, (by exact blk_alloc (blk_below hp0 hb) _), (by exact below_alloc (below_step hbel hb) _)⟩
      case measure => simp [intOf]; omega

set_option maxHeartbeats 2000000 in
set_option maxRecDepth 100000 in
theorem fsr_none (n : Int) (hn : ∀ k : Int, 4 ≤ k → k ≤ 900 → 4 * k + 316 ≠ n) (w : World) :
    Calls Try.prog 21 #[.int .i64 n] w fun e w' => e = .returned (.tuple #[.agg #[.int .i64 0, .int .i64 0, .int .i64 0, .int .i64 0, .int .i64 0, .int .i64 0], .int .i64 1]) ∧ Below w.heap.size w w' := by
  have HN := Lib.hid hn
  clear hn
  go_enter Try.func21, Try.ntmps21
  go_wp2
  go_loopw [4] (fun i wr => ∃ k : Int, 4 ≤ k ∧ k ≤ 901 ∧ i = .int .i64 k ∧ wr.heap[w.heap.size]? = some (.cells #[.int .i64 0, .int .i64 0, .int .i64 0, .int .i64 0, .int .i64 0, .int .i64 0] 31 (0, 0)) ∧ Below w.heap.size w wr) (fun i _ => (901 - intOf i).toNat)
  case atStart => exact ⟨4, by omega, by omega, rfl, blk_new _ _, below_alloc (Below.refl _ _) _⟩
  case round =>
    obtain ⟨k, hk1, hk2, rfl, hp, hbel⟩ := hrel
    have hp0 := hp
    have hzr : w.heap.size < wr.heap.size := blk_lt hp
    have hpc0 : wr.cell? ⟨w.heap.size, 0, none⟩ = some (.int .i64 0) := (blk_cell hp 0).trans rfl
    have hpf0 := blk_frozen hp 0
    have hpc1 : wr.cell? ⟨w.heap.size, 1, none⟩ = some (.int .i64 0) := (blk_cell hp 1).trans rfl
    have hpf1 := blk_frozen hp 1
    have hpc2 : wr.cell? ⟨w.heap.size, 2, none⟩ = some (.int .i64 0) := (blk_cell hp 2).trans rfl
    have hpf2 := blk_frozen hp 2
    have hpc3 : wr.cell? ⟨w.heap.size, 3, none⟩ = some (.int .i64 0) := (blk_cell hp 3).trans rfl
    have hpf3 := blk_frozen hp 3
    have hpc4 : wr.cell? ⟨w.heap.size, 4, none⟩ = some (.int .i64 0) := (blk_cell hp 4).trans rfl
    have hpf4 := blk_frozen hp 4
    have hpc5 : wr.cell? ⟨w.heap.size, 5, none⟩ = some (.int .i64 0) := (blk_cell hp 5).trans rfl
    have hpf5 := blk_frozen hp 5

    by_cases he : k ≤ 900
    · have c1 : decide (k ≤ 900) = true := decide_eq_true he
      have HL : Hid (Lay k (4 * k + 316) (2 * k + 120)) := Lib.hid ⟨by omega, by omega, rfl, rfl⟩
      have c2 : (4 * k + 316 == n) = false := by have := HN.out k hk1 he; simp; omega
      go_wp2_with (go_at_call 19; (with_reducible refine (fq_good HL.out _).mono ?_); rintro e w1 ⟨rfl, hb⟩; obtain ⟨hc, hf⟩ := bcell hb; have hz := hb.size; have hz2 : w.heap.size < w1.heap.size := Nat.lt_of_lt_of_le hzr hz)
      go_roundw
      case rel => exact ⟨k + 1, by omega, by omega, by go_num, (by exact blk_alloc (blk_below hp0 hb) _), (by exact below_alloc (below_step hbel hb) _)⟩
      case measure => simp [intOf]; omega
    · have c1 : decide (k ≤ 900) = false := decide_eq_false he
      go_wp2
      refine fin_ct (w.heap.size) 31 #[.int .i64 0, .int .i64 0, .int .i64 0, .int .i64 0, .int .i64 0, .int .i64 0] (.int .i64 1) (by rfl) (by rfl) (by rfl) (by rfl) Try.underlying31 (by rfl) (by kernel_rfl) ?_ ?_
      · (with_reducible repeat (first | refine blk_drewN ?_ _ | refine blk_drew ?_ | refine blk_alloc ?_ _)); refine blk_put (cs := #[.int .i64 0, .int .i64 0, .int .i64 0, .int .i64 0, .int .i64 0, .int .i64 0]) ?_ 5 _ (by rfl); (with_reducible repeat (first | refine blk_drewN ?_ _ | refine blk_drew ?_ | refine blk_alloc ?_ _)); refine blk_put (cs := #[.int .i64 0, .int .i64 0, .int .i64 0, .int .i64 0, .int .i64 0, .int .i64 0]) ?_ 4 _ (by rfl); (with_reducible repeat (first | refine blk_drewN ?_ _ | refine blk_drew ?_ | refine blk_alloc ?_ _)); refine blk_put (cs := #[.int .i64 0, .int .i64 0, .int .i64 0, .int .i64 0, .int .i64 0, .int .i64 0]) ?_ 3 _ (by rfl); (with_reducible repeat (first | refine blk_drewN ?_ _ | refine blk_drew ?_ | refine blk_alloc ?_ _)); refine blk_put (cs := #[.int .i64 0, .int .i64 0, .int .i64 0, .int .i64 0, .int .i64 0, .int .i64 0]) ?_ 2 _ (by rfl); (with_reducible repeat (first | refine blk_drewN ?_ _ | refine blk_drew ?_ | refine blk_alloc ?_ _)); refine blk_put (cs := #[.int .i64 0, .int .i64 0, .int .i64 0, .int .i64 0, .int .i64 0, .int .i64 0]) ?_ 1 _ (by rfl); (with_reducible repeat (first | refine blk_drewN ?_ _ | refine blk_drew ?_ | refine blk_alloc ?_ _)); refine blk_put (cs := #[.int .i64 0, .int .i64 0, .int .i64 0, .int .i64 0, .int .i64 0, .int .i64 0]) ?_ 0 _ (by rfl); (with_reducible repeat (first | refine blk_drewN ?_ _ | refine blk_drew ?_ | refine blk_alloc ?_ _)); with_reducible exact hp0
      · exact ⟨rfl, (by (repeat (with_reducible first | refine below_alloc ?_ _ | refine below_set ?_ (Nat.le_refl _))); exact hbel)⟩

/-! ### lazaretref08.Quota -/
set_option maxHeartbeats 2000000 in
set_option maxRecDepth 100000 in
theorem qr_good {q S Z : Int} (L : Lay q S Z) (w : World) :
    Calls Try.prog 33 #[.agg #[.int .i64 S, .int .i64 (2 * q + 148), .int .i64 2, .int .i64 4, .int .i64 28, .int .i64 Z]] w fun e w' => e = .returned (.int .i64 q) ∧ Below w.heap.size w w' := by
  obtain ⟨l1, l2, l3, l4⟩ := L
  have HS := Lib.hid l3
  have HZ := Lib.hid l4
  clear l3 l4
  go_enter Try.func33, Try.ntmps33
  go_wp2
  go_loopw [3] (fun i wr => ∃ k : Int, 4 ≤ k ∧ k ≤ q ∧ i = .int .i64 k ∧ wr.heap[w.heap.size]? = some (.cells #[.int .i64 S, .int .i64 (2 * q + 148), .int .i64 2, .int .i64 4, .int .i64 28, .int .i64 Z] 31 (0, 0)) ∧ Below w.heap.size w wr) (fun i _ => (901 - intOf i).toNat)
  case atStart => exact ⟨4, by omega, by omega, rfl, blk_new _ _, below_alloc (Below.refl _ _) _⟩
  case round =>
    obtain ⟨k, hk1, hk2, rfl, hp, hbel⟩ := hrel
    have c1 : decide (k ≤ 900) = true := decide_eq_true (by omega)
    have hp0 := hp
    have hzr : w.heap.size < wr.heap.size := blk_lt hp
    have hpc0 : wr.cell? ⟨w.heap.size, 0, none⟩ = some (.int .i64 S) := (blk_cell hp 0).trans rfl
    have hpf0 := blk_frozen hp 0
    have hpc1 : wr.cell? ⟨w.heap.size, 1, none⟩ = some (.int .i64 (2 * q + 148)) := (blk_cell hp 1).trans rfl
    have hpf1 := blk_frozen hp 1
    have hpc2 : wr.cell? ⟨w.heap.size, 2, none⟩ = some (.int .i64 2) := (blk_cell hp 2).trans rfl
    have hpf2 := blk_frozen hp 2
    have hpc3 : wr.cell? ⟨w.heap.size, 3, none⟩ = some (.int .i64 4) := (blk_cell hp 3).trans rfl
    have hpf3 := blk_frozen hp 3
    have hpc4 : wr.cell? ⟨w.heap.size, 4, none⟩ = some (.int .i64 28) := (blk_cell hp 4).trans rfl
    have hpf4 := blk_frozen hp 4
    have hpc5 : wr.cell? ⟨w.heap.size, 5, none⟩ = some (.int .i64 Z) := (blk_cell hp 5).trans rfl
    have hpf5 := blk_frozen hp 5

    by_cases he : k = q
    · obtain rfl := he
      have HL : Hid (Lay k S Z) := Lib.hid ⟨l1, l2, HS.out, HZ.out⟩
      go_wp2_with (go_at_call 19; (with_reducible refine (fq_good HL.out _).mono ?_); rintro e w1 ⟨rfl, hb⟩; obtain ⟨hc, hf⟩ := bcell hb; have hz := hb.size; have hz2 : w.heap.size < w1.heap.size := Nat.lt_of_lt_of_le hzr hz)
      go_ret
      exact ⟨rfl, below_alloc (below_step hbel hb) _⟩
    · have HL : Hid (Lay k (4 * k + 316) (2 * k + 120)) := Lib.hid ⟨by omega, by omega, rfl, rfl⟩
      have c2 : (4 * k + 316 == S) = false := by have := HS.out; simp; omega
      go_wp2_with (go_at_call 19; (with_reducible refine (fq_good HL.out _).mono ?_); rintro e w1 ⟨rfl, hb⟩; obtain ⟨hc, hf⟩ := bcell hb; have hz := hb.size; have hz2 : w.heap.size < w1.heap.size := Nat.lt_of_lt_of_le hzr hz)
      go_roundw
      case rel => exact ⟨k + 1, by omega, by omega, by go_num, (by exact blk_alloc (blk_below hp0 hb) _), (by exact below_alloc (below_step hbel hb) _)⟩
      case measure => simp [intOf]; omega

/-- no layout of any quota -/
def NoLay (a b c d e f : Int) : Prop := ∀ k : Int, 4 ≤ k → k ≤ 900 → ¬ (4 * k + 316 = a ∧ 2 * k + 148 = b ∧ 2 = c ∧ 4 = d ∧ 28 = e ∧ 2 * k + 120 = f)

theorem gq_none {a b c d e f : Int} (N : NoLay a b c d e f) (hf : -9223372036854775808 ≤ f ∧ f ≤ 9223372036854775807) (k : Nat) : geom_Quota.f (k + 1) a b c d e f = some 0 := by
  unfold geom_Quota.f
  by_cases h1 : f < 120
  · rw [if_pos h1]; simp only [geom_Quota.j0, if_true]
  rw [if_neg h1]
  by_cases h2 : f > 1920
  · rw [decide_eq_true h2]; simp only [geom_Quota.j0, if_true]
  rw [decide_eq_false h2]
  simp only [geom_Quota.j0]
  rw [if_neg (by simp)]
  have e1 : wrap64 (f - 120) = f - 120 := by unfold wrap64; omega
  have e2 : Int.tdiv (f - 120) 2 = (f - 120) / 2 := Int.tdiv_eq_ediv_of_nonneg (by omega)
  have e3 : wrap64 ((f - 120) / 2) = (f - 120) / 2 := by unfold wrap64; omega
  rw [e1, e2, e3]
  by_cases h3 : (f - 120) / 2 < 4
  · rw [go_fq_low h3]; rfl
  rw [go_fq_good (by omega) (by omega)]
  simp only [Option.bind_some, if_true]
  rw [if_pos]
  have := N ((f - 120) / 2) (by omega) (by omega)
  simp only [Bool.or_eq_true, Bool.not_eq_true', beq_eq_false_iff_ne]
  omega


set_option maxHeartbeats 2000000 in
set_option maxRecDepth 100000 in
theorem qr_none {a b c d e f : Int} (N : NoLay a b c d e f) (w : World) :
    Calls Try.prog 33 #[.agg #[.int .i64 a, .int .i64 b, .int .i64 c, .int .i64 d, .int .i64 e, .int .i64 f]] w fun e w' => e = .returned (.int .i64 0) ∧ Below w.heap.size w w' := by
  have HN := Lib.hid N
  clear N
  go_enter Try.func33, Try.ntmps33
  go_wp2
  go_loopw [3] (fun i wr => ∃ k : Int, 4 ≤ k ∧ k ≤ 901 ∧ i = .int .i64 k ∧ wr.heap[w.heap.size]? = some (.cells #[.int .i64 a, .int .i64 b, .int .i64 c, .int .i64 d, .int .i64 e, .int .i64 f] 31 (0, 0)) ∧ Below w.heap.size w wr) (fun i _ => (901 - intOf i).toNat)
  case atStart => exact ⟨4, by omega, by omega, rfl, blk_new _ _, below_alloc (Below.refl _ _) _⟩
  case round =>
    obtain ⟨k, hk1, hk2, rfl, hp, hbel⟩ := hrel
    have hp0 := hp
    have hzr : w.heap.size < wr.heap.size := blk_lt hp
    have hpc0 : wr.cell? ⟨w.heap.size, 0, none⟩ = some (.int .i64 a) := (blk_cell hp 0).trans rfl
    have hpf0 := blk_frozen hp 0
    have hpc1 : wr.cell? ⟨w.heap.size, 1, none⟩ = some (.int .i64 b) := (blk_cell hp 1).trans rfl
    have hpf1 := blk_frozen hp 1
    have hpc2 : wr.cell? ⟨w.heap.size, 2, none⟩ = some (.int .i64 c) := (blk_cell hp 2).trans rfl
    have hpf2 := blk_frozen hp 2
    have hpc3 : wr.cell? ⟨w.heap.size, 3, none⟩ = some (.int .i64 d) := (blk_cell hp 3).trans rfl
    have hpf3 := blk_frozen hp 3
    have hpc4 : wr.cell? ⟨w.heap.size, 4, none⟩ = some (.int .i64 e) := (blk_cell hp 4).trans rfl
    have hpf4 := blk_frozen hp 4
    have hpc5 : wr.cell? ⟨w.heap.size, 5, none⟩ = some (.int .i64 f) := (blk_cell hp 5).trans rfl
    have hpf5 := blk_frozen hp 5

    by_cases he : k ≤ 900
    rotate_left
    · have c1 : decide (k ≤ 900) = false := decide_eq_false he
      go_wp2
      go_ret
      exact ⟨rfl, hbel⟩
    have c1 : decide (k ≤ 900) = true := decide_eq_true he
    have HL : Hid (Lay k (4 * k + 316) (2 * k + 120)) := Lib.hid ⟨by omega, by omega, rfl, rfl⟩
    by_cases e0 : 4 * k + 316 = a
    rotate_left
    · skip
      have c2 : (4 * k + 316 == a) = false := by simp; omega
      clear e0
      go_wp2_with (go_at_call 19; (with_reducible refine (fq_good HL.out _).mono ?_); rintro e w1 ⟨rfl, hb⟩; obtain ⟨hc, hf⟩ := bcell hb; have hz := hb.size; have hz2 : w.heap.size < w1.heap.size := Nat.lt_of_lt_of_le hzr hz)
      go_roundw
      case rel => exact ⟨k + 1, by omega, by omega, by go_num, (by exact blk_alloc (blk_below hp0 hb) _), (by exact below_alloc (below_step hbel hb) _)⟩
      case measure => simp [intOf]; omega
    by_cases e1 : 2 * k + 148 = b
    rotate_left
    · skip
      have c2 : (4 * k + 316 == a) = true := by simp; omega
      have c3 : (2 * k + 148 == b) = false := by simp; omega
      clear e0 e1
      go_wp2_with (go_at_call 19; (with_reducible refine (fq_good HL.out _).mono ?_); rintro e w1 ⟨rfl, hb⟩; obtain ⟨hc, hf⟩ := bcell hb; have hz := hb.size; have hz2 : w.heap.size < w1.heap.size := Nat.lt_of_lt_of_le hzr hz)
      go_roundw
      case rel => exact ⟨k + 1, by omega, by omega, by go_num, (by exact blk_alloc (blk_below hp0 hb) _), (by exact below_alloc (below_step hbel hb) _)⟩
      case measure => simp [intOf]; omega
    by_cases e2 : 2 = c
    rotate_left
    · skip
      have c2 : (4 * k + 316 == a) = true := by simp; omega
      have c3 : (2 * k + 148 == b) = true := by simp; omega
      have c4 : ((2 : Int) == c) = false := by simp; omega
      clear e0 e1 e2
      go_wp2_with (go_at_call 19; (with_reducible refine (fq_good HL.out _).mono ?_); rintro e w1 ⟨rfl, hb⟩; obtain ⟨hc, hf⟩ := bcell hb; have hz := hb.size; have hz2 : w.heap.size < w1.heap.size := Nat.lt_of_lt_of_le hzr hz)
      go_roundw
      case rel => exact ⟨k + 1, by omega, by omega, by go_num, (by exact blk_alloc (blk_below hp0 hb) _), (by exact below_alloc (below_step hbel hb) _)⟩
      case measure => simp [intOf]; omega
    by_cases e3 : 4 = d
    rotate_left
    · skip
      have c2 : (4 * k + 316 == a) = true := by simp; omega
      have c3 : (2 * k + 148 == b) = true := by simp; omega
      have c4 : ((2 : Int) == c) = true := by simp; omega
      have c5 : ((4 : Int) == d) = false := by simp; omega
      clear e0 e1 e2 e3
      go_wp2_with (go_at_call 19; (with_reducible refine (fq_good HL.out _).mono ?_); rintro e w1 ⟨rfl, hb⟩; obtain ⟨hc, hf⟩ := bcell hb; have hz := hb.size; have hz2 : w.heap.size < w1.heap.size := Nat.lt_of_lt_of_le hzr hz)
      go_roundw
      case rel => exact ⟨k + 1, by omega, by omega, by go_num, (by exact blk_alloc (blk_below hp0 hb) _), (by exact below_alloc (below_step hbel hb) _)⟩
      case measure => simp [intOf]; omega
    by_cases e4 : 28 = e
    rotate_left
    · skip
      have c2 : (4 * k + 316 == a) = true := by simp; omega
      have c3 : (2 * k + 148 == b) = true := by simp; omega
      have c4 : ((2 : Int) == c) = true := by simp; omega
      have c5 : ((4 : Int) == d) = true := by simp; omega
      have c6 : ((28 : Int) == e) = false := by simp; omega
      clear e0 e1 e2 e3 e4
      go_wp2_with (go_at_call 19; (with_reducible refine (fq_good HL.out _).mono ?_); rintro e w1 ⟨rfl, hb⟩; obtain ⟨hc, hf⟩ := bcell hb; have hz := hb.size; have hz2 : w.heap.size < w1.heap.size := Nat.lt_of_lt_of_le hzr hz)
      go_roundw
      case rel => exact ⟨k + 1, by omega, by omega, by go_num, (by exact blk_alloc (blk_below hp0 hb) _), (by exact below_alloc (below_step hbel hb) _)⟩
      case measure => simp [intOf]; omega
    by_cases e5 : 2 * k + 120 = f
    rotate_left
    · skip
      have c2 : (4 * k + 316 == a) = true := by simp; omega
      have c3 : (2 * k + 148 == b) = true := by simp; omega
      have c4 : ((2 : Int) == c) = true := by simp; omega
      have c5 : ((4 : Int) == d) = true := by simp; omega
      have c6 : ((28 : Int) == e) = true := by simp; omega
      have c7 : (2 * k + 120 == f) = false := by simp; omega
      clear e0 e1 e2 e3 e4 e5
      go_wp2_with (go_at_call 19; (with_reducible refine (fq_good HL.out _).mono ?_); rintro e w1 ⟨rfl, hb⟩; obtain ⟨hc, hf⟩ := bcell hb; have hz := hb.size; have hz2 : w.heap.size < w1.heap.size := Nat.lt_of_lt_of_le hzr hz)
      go_roundw
      case rel => exact ⟨k + 1, by omega, by omega, by go_num, (by exact blk_alloc (blk_below hp0 hb) _), (by exact below_alloc (below_step hbel hb) _)⟩
      case measure => simp [intOf]; omega
    exact absurd ⟨e0, e1, e2, e3, e4, e5⟩ (HN.out k hk1 he)

end Go.Proofs.Ytkajbhkhecoccaa.GeoRef
