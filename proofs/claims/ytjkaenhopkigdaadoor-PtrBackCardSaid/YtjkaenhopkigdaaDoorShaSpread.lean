/- The schedule of a block: the walk of sha.spread. -/
import Derived.Test.YtjkaenhopkigdaaDoorShaRot
import Derived.Test.YtjkaenhopkigdaaDoorArrKit
set_option linter.unusedVariables false
set_option linter.unusedSimpArgs false
namespace Go.Proofs.YtjkaenhopkigdaaDoor.ShaSpread
open Go Go.RowKit Go.Proofs.YtjkaenhopkigdaaDoor.K Go.Proofs.YtjkaenhopkigdaaDoor.ShaRot Go.Proofs.YtjkaenhopkigdaaDoor.ArrKit

def U (n : Nat) : Value := .int .u32 (n : Int)
def s0 (x : Nat) : Nat := rot x 7 ^^^ rot x 18 ^^^ x / 8
def s1 (x : Nat) : Nat := rot x 17 ^^^ rot x 19 ^^^ x / 1024
def at0 (l : List Nat) (i : Nat) : Nat := l.getD i 0
def wnext (l : List Nat) : Nat := (at0 l (l.length - 16) + s0 (at0 l (l.length - 15)) + at0 l (l.length - 7) + s1 (at0 l (l.length - 2))) % 4294967296
def byte (b : List UInt8) (i : Nat) : Nat := (b.getD i 0).toNat
def word (b : List UInt8) (t : Nat) : Nat := byte b (4 * t) * 16777216 ||| byte b (4 * t + 1) * 65536 ||| byte b (4 * t + 2) * 256 ||| byte b (4 * t + 3)
/-- the first k numbers that a block is spread to -/
def sched (b : List UInt8) : Nat → List Nat
  | 0 => []
  | t + 1 => sched b t ++ [if t < 16 then word b t else wnext (sched b t)]
@[simp] theorem sched_length (b : List UInt8) (k : Nat) : (sched b k).length = k := by
  induction k with
  | zero => rfl
  | succ k ih => simp [sched, ih]
theorem byte_lt8 (b : List UInt8) (i : Nat) : byte b i < 256 := (b.getD i 0).toNat_lt
theorem word_lt (b : List UInt8) (t : Nat) : word b t < 4294967296 := by
  have h0 := byte_lt8 b (4 * t)
  have h1 := byte_lt8 b (4 * t + 1)
  have h2 := byte_lt8 b (4 * t + 2)
  have h3 := byte_lt8 b (4 * t + 3)
  exact or_lt (or_lt (or_lt (by omega) (by omega)) (by omega)) (by omega)
theorem sched_lt (b : List UInt8) (k : Nat) : ∀ x ∈ sched b k, x < 4294967296 := by
  induction k with
  | zero => intro x h; cases h
  | succ k ih =>
    intro x h
    simp only [sched, List.mem_append, List.mem_singleton] at h
    rcases h with h | h
    · exact ih x h
    · rw [h]; split
      · exact word_lt _ _
      · exact Nat.mod_lt _ (by decide)
theorem at0_lt {b : List UInt8} {k : Nat} (i : Nat) : at0 (sched b k) i < 4294967296 := by
  unfold at0
  rw [List.getD_eq_getElem?_getD]
  cases h : (sched b k)[i]? with
  | none => simp
  | some x => exact sched_lt b k x (List.mem_of_getElem? h)
theorem s0_lt {x : Nat} (h : x < 4294967296) : s0 x < 4294967296 := xor_lt (xor_lt (rot_lt _ h) (rot_lt _ h)) (Nat.lt_of_le_of_lt (Nat.div_le_self _ _) h)
theorem s1_lt {x : Nat} (h : x < 4294967296) : s1 x < 4294967296 := xor_lt (xor_lt (rot_lt _ h) (rot_lt _ h)) (Nat.lt_of_le_of_lt (Nat.div_le_self _ _) h)

/-- 64 zeros -/
def Z : Array Value := #[.int .u32 0,.int .u32 0,.int .u32 0,.int .u32 0,.int .u32 0,.int .u32 0,.int .u32 0,.int .u32 0,.int .u32 0,.int .u32 0,.int .u32 0,.int .u32 0,.int .u32 0,.int .u32 0,.int .u32 0,.int .u32 0,.int .u32 0,.int .u32 0,.int .u32 0,.int .u32 0,.int .u32 0,.int .u32 0,.int .u32 0,.int .u32 0,.int .u32 0,.int .u32 0,.int .u32 0,.int .u32 0,.int .u32 0,.int .u32 0,.int .u32 0,.int .u32 0,.int .u32 0,.int .u32 0,.int .u32 0,.int .u32 0,.int .u32 0,.int .u32 0,.int .u32 0,.int .u32 0,.int .u32 0,.int .u32 0,.int .u32 0,.int .u32 0,.int .u32 0,.int .u32 0,.int .u32 0,.int .u32 0,.int .u32 0,.int .u32 0,.int .u32 0,.int .u32 0,.int .u32 0,.int .u32 0,.int .u32 0,.int .u32 0,.int .u32 0,.int .u32 0,.int .u32 0,.int .u32 0,.int .u32 0,.int .u32 0,.int .u32 0,.int .u32 0]
theorem Z_size : Z.size = 64 := rfl
theorem infoZ : (Tryd.prog.info? 68).map (·.size) = some Z.size := by kernel_rfl
theorem lay_full (vs : List Value) (cs : Array Value) (h : vs.length = cs.size) : lay cs 0 vs = vs.toArray := by
  apply Array.ext_getElem?
  intro i
  rw [lay_get]
  by_cases hi : i < cs.size
  · rw [if_pos ⟨Nat.zero_le _, by omega, hi⟩]; simp
  · rw [if_neg (by omega), Array.getElem?_eq_none (by omega)]; simp; omega
theorem all_lay (b : List UInt8) : (lay Z 0 ((sched b 64).map U)).all (·.oneCell') = true := by
  rw [lay_full _ _ (by rw [List.length_map, sched_length, Z_size])]
  simp [U, Value.oneCell']
set_option maxHeartbeats 2000000 in
set_option maxRecDepth 100000 in
theorem slice_lo (k : Nat) (w : World) (g : Nat) (h : 4 * k < 64) : (Instr.sliceAt 56 (.pointer (some ⟨g, 0, none⟩)) (some (.int .i64 (4 * (k : Int)))) none none).run Tryd.prog w = .ok (.slice (some ⟨g, 4 * k, none⟩) (64 - 4 * k) (64 - 4 * k)) w := by
  have t1 : Tryd.prog.underlying 56 = some (.array (Tryd.prog.arrayLen 56) (Tryd.prog.elem 56)) := by kernel_rfl
  have t2 : Tryd.prog.arrayLen 56 = 64 := by kernel_rfl
  have t3 : Tryd.prog.elem 56 = 5 := by kernel_rfl
  rw [run_sliceAt_array_l w 56 _ t1 .i64 _ (by omega) (by rw [t2]; omega), t2, t3]
  have hs : (sizeOf 5).run Tryd.prog w = .ok 1 w := by kernel_rfl
  rw [hs]
  have e : (4 * (k : Int)).toNat = 4 * k := by omega
  simp only [Result.andThen_ok, slicedAt, e]
  rw [if_neg (by omega), Nat.mul_one]
  simp [Addr.add]
  omega
set_option maxHeartbeats 2000000 in
set_option maxRecDepth 100000 in
theorem spread_calls (b : List UInt8) (w : World) (hb : b.length = 64) :
    Calls Tryd.prog 50 #[.agg (b.map B).toArray] w fun e w' => e = .returned (.agg ((sched b 64).map U).toArray) ∧ Fr0 w w' := by
  have HB := Lib.hid hb
  have hsz : ((b.map B).toArray).size = 64 := by simp [hb]
  generalize hcs : (b.map B).toArray = cs at *
  have HZ : Hid (cs.size = 64) := Lib.hid hsz
  have HC : Hid (∀ i (h : i < b.length), cs[i]? = some (B b[i])) := Lib.hid (fun i h => by rw [← hcs]; simp [h])
  clear hcs hsz hb
  go_enter Tryd.func50, Tryd.ntmps50
  go_wp2
  go_loopw [10] (fun u wr => ∃ k : Nat, k ≤ 64 ∧ u = .int .i64 k ∧ Bk wr w.heap.size cs 56 ∧ Bk wr (w.heap.size + 1) Z 68 ∧ Bk wr (w.heap.size + 1 + 1) (lay Z 0 ((sched b k).map U)) 68 ∧ Fr0 w wr) (fun u _ => 64 - (intOf u).toNat)
  case atStart =>
    have hR := Bk.new (w.alloc (.cells cs 56)) (.cells Z 68)
    have hW := Bk.new ((w.alloc (.cells cs 56)).alloc (.cells Z 68)) (.cells Z 68)
    have e1 : (w.alloc (.cells cs 56)).heap.size = w.heap.size + 1 := by simp
    have e2 : ((w.alloc (.cells cs 56)).alloc (.cells Z 68)).heap.size = w.heap.size + 1 + 1 := by simp
    rw [e1] at hR
    rw [e2] at hW
    exact ⟨0, by omega, rfl, Bk.alloc (Bk.alloc (Bk.new _ _) _) _, Bk.alloc hR _, hW, Fr.alloc (Fr.alloc (Fr.alloc (Fr.refl _ _) _) _) _⟩
  case round =>
    obtain ⟨k, hk, rfl, hbd, hbr, hbw, hfr⟩ := hrel
    have HD := Lib.hid hbd
    have HRb := Lib.hid hbr
    have HW := Lib.hid hbw
    have HF := Lib.hid hfr
    clear hbd hbr hbw hfr
    by_cases hlt : k < 64
    rotate_left
    · have c0 : decide ((k : Int) < 64) = false := decide_eq_false (by omega)
      obtain rfl : k = 64 := by omega
      go_wp2_with (first | (refine wpList_load_row rfl 68 _ rfl (w.heap.size + 1 + 1) rfl 68 _ (0, 0) _ HW.out Tryd.underlying68 rfl (by rw [lay_size]; exact infoZ) ?_) | (refine wpList_store_row rfl 68 _ _ rfl (w.heap.size + 1) _ rfl rfl 68 Z HRb.out (by rw [lay_size]; exact infoZ) (by rw [lay_size]) (all_lay b) ?_))
      refine fin_c (w.heap.size + 1) 68 ((sched b 64).map U).toArray (by rfl) (by rfl) (by rfl) Tryd.underlying68 (by rfl) (by rw [infoZ]; simp [Z_size]) ?_ ?_
      · have := ArrKit.Bk.row HRb.out (lay Z 0 ((sched b 64).map U))
        exact this.trans (by rw [lay_full _ _ (by rw [List.length_map, sched_length, Z_size])])
      · exact ⟨rfl, ArrKit.Fr.row HF.out _ _ (.inl (by omega))⟩
    have c0 : decide ((k : Int) < 64) = true := decide_eq_true (by omega)
    have hkW : (lay Z 0 ((sched b k).map U)).size = 64 := by rw [lay_size, Z_size]
    have HSZ := Lib.hid hkW
    obtain ⟨v1, hv1⟩ : ∃ v1, wr.cell? ⟨w.heap.size + 1 + 1, k, none⟩ = some v1 := ⟨_, (HW.out.cell k).trans (Array.getElem?_eq_getElem (by omega))⟩
    have hfz := HW.out.free k
    clear hkW
    by_cases h16 : k < 16
    · have c1 : decide ((k : Int) < 16) = true := decide_eq_true (by omega)
      have x1 : 4 * (k : Int) ≤ 64 := by omega
      have x2 : 4 * k < 64 := by omega
      have hby : ∀ j, j < 4 → wr.cell? ⟨w.heap.size, 4 * k + j, none⟩ = some (.int .u8 (byte b (4 * k + j) : Nat)) := fun j hj => by
        rw [HD.out.cell, HC.out _ (by rw [HB.out]; omega)]
        simp [byte, B, List.getD, List.getElem?_eq_getElem (show 4 * k + j < b.length by rw [HB.out]; omega)]
      have b0 := hby 0 (by omega)
      have b1 := hby 1 (by omega)
      have b2 := hby 2 (by omega)
      have b3 := hby 3 (by omega)
      rw [Nat.add_zero] at b0
      have l0 := byte_lt8 b (4 * k)
      have l1 := byte_lt8 b (4 * k + 1)
      have l2 := byte_lt8 b (4 * k + 2)
      have l3 := byte_lt8 b (4 * k + 3)
      have HX : Hid (sched b (k + 1) = sched b k ++ [word b k]) := Lib.hid (by simp [sched, h16])
      have HWd : Hid (word b k = byte b (4 * k) * 16777216 ||| byte b (4 * k + 1) * 65536 ||| byte b (4 * k + 2) * 256 ||| byte b (4 * k + 3)) := Lib.hid rfl
      clear hby
      have hsl := slice_lo k wr w.heap.size x2
      obtain ⟨L, hL⟩ : ∃ L, 64 - 4 * k = L := ⟨_, rfl⟩
      rw [hL] at hsl
      have y0 : (0 : Int) < (L : Int) := by omega
      have y1 : (1 : Int) < (L : Int) := by omega
      have y2 : (2 : Int) < (L : Int) := by omega
      have y3 : (3 : Int) < (L : Int) := by omega
      have z0 : 0 < L := by omega
      have z1 : 1 < L := by omega
      have z2 : 2 < L := by omega
      have z3 : 3 < L := by omega
      clear hL
      generalize byte b (4 * k) = q0 at *
      generalize byte b (4 * k + 1) = q1 at *
      generalize byte b (4 * k + 2) = q2 at *
      generalize byte b (4 * k + 3) = q3 at *
      have e1 := or32 (q0 * 16777216) (q1 * 65536) (by omega) (by omega)
      have e2 := or32 (q0 * 16777216 ||| q1 * 65536) (q2 * 256) (or_lt (by omega) (by omega)) (by omega)
      have e3 := or32 (q0 * 16777216 ||| q1 * 65536 ||| q2 * 256) q3 (or_lt (or_lt (by omega) (by omega)) (by omega)) (by omega)
      simp only [Int.natCast_mul, Int.cast_ofNat_Int] at e1 e2 e3
      go_wp2_with fail
      go_still_tail 23, (by kernel_rfl)
      change wpList _ _ _ _ _ wr.drew
      have HDd : Hid (Bk wr.drew w.heap.size cs 56) := Lib.hid HD.out
      have HRd : Hid (Bk wr.drew (w.heap.size + 1) Z 68) := Lib.hid HRb.out
      have HWd2 : Hid (Bk wr.drew (w.heap.size + 1 + 1) (lay Z 0 ((sched b k).map U)) 68) := Lib.hid HW.out
      have HFd : Hid (Fr0 w wr.drew) := Lib.hid HF.out.drew
      have hvd : wr.drew.cell? ⟨w.heap.size + 1 + 1, k, none⟩ = some v1 := hv1
      have hfd : wr.drew.frozen? ⟨w.heap.size + 1 + 1, k, none⟩ = false := hfz
      clear b0 b1 b2 b3 hsl hv1 hfz
      generalize wr.drew = w2 at *
      go_wp2
      refine ⟨⟨k + 1, by omega, by go_num, Bk.setOther HDd.out _ _ (by simp; omega), Bk.setOther HRd.out _ _ (by simp), ?_, HFd.out.set _ _ (.inl (by simp; omega))⟩, by simp [intOf]; omega⟩
      rw [HX.out, List.map_append, List.map_singleton, lay_snoc, List.length_map, sched_length, Nat.zero_add, HWd.out]
      exact HWd2.out.set _ _
    · have c1 : decide ((k : Int) < 16) = false := decide_eq_false (by omega)
      have hcell : ∀ j, j < k → wr.cell? ⟨w.heap.size + 1 + 1, j, none⟩ = some (.int .u32 (at0 (sched b k) j : Nat)) := fun j hj => by
        rw [HW.out.cell, lay_get, if_pos ⟨Nat.zero_le _, by simp; omega, by rw [Z_size]; omega⟩, Nat.sub_zero, List.getElem?_map, at0, List.getD_eq_getElem?_getD, List.getElem?_eq_getElem (by simp; omega)]
        rfl
      have r2 := hcell (k - 2) (by omega)
      have r15 := hcell (k - 15) (by omega)
      have i2 : (0 : Int) ≤ (k : Int) - 2 := by omega
      have i15 : (0 : Int) ≤ (k : Int) - 15 := by omega
      have j2 : (k : Int) - 2 < 64 := by omega
      have j15 : (k : Int) - 15 < 64 := by omega
      have k2 : 2 ≤ k := by omega
      have k15 : 15 ≤ k := by omega
      have r16 := hcell (k - 16) (by omega)
      have r7 := hcell (k - 7) (by omega)
      have i16 : (0 : Int) ≤ (k : Int) - 16 := by omega
      have i7 : (0 : Int) ≤ (k : Int) - 7 := by omega
      have j16 : (k : Int) - 16 < 64 := by omega
      have j7 : (k : Int) - 7 < 64 := by omega
      have k16 : 16 ≤ k := by omega
      have k7 : 7 ≤ k := by omega
      have HX : Hid (sched b (k + 1) = sched b k ++ [wnext (sched b k)]) := Lib.hid (by simp [sched, h16])
      have HN : Hid (wnext (sched b k) = (at0 (sched b k) (k - 16) + s0 (at0 (sched b k) (k - 15)) + at0 (sched b k) (k - 7) + s1 (at0 (sched b k) (k - 2))) % 4294967296) := Lib.hid (by simp [wnext])
      have hx : at0 (sched b k) (k - 15) < 4294967296 := at0_lt _
      have hy : at0 (sched b k) (k - 2) < 4294967296 := at0_lt _
      have hu : at0 (sched b k) (k - 16) < 4294967296 := at0_lt _
      have hv : at0 (sched b k) (k - 7) < 4294967296 := at0_lt _
      have HNW : Hid ((sched b k).length = k) := Lib.hid (sched_length b k)
      clear hcell
      generalize at0 (sched b k) (k - 15) = x at *
      generalize at0 (sched b k) (k - 2) = y at *
      generalize at0 (sched b k) (k - 16) = u at *
      generalize at0 (sched b k) (k - 7) = v at *
      generalize wnext (sched b k) = nx at *
      generalize sched b k = sl at *
      have e1 := xor32 (rot x 7) (rot x 18) (rot_lt _ hx) (rot_lt _ hx)
      have e2 := xor32 (rot x 7 ^^^ rot x 18) (x / 8) (xor_lt (rot_lt _ hx) (rot_lt _ hx)) (by omega)
      have e3 := xor32 (rot y 17) (rot y 19) (rot_lt _ hy) (rot_lt _ hy)
      have e4 := xor32 (rot y 17 ^^^ rot y 19) (y / 1024) (xor_lt (rot_lt _ hy) (rot_lt _ hy)) (by omega)
      have HE : Hid (rot x 7 ^^^ rot x 18 ^^^ x / 8 = s0 x ∧ rot y 17 ^^^ rot y 19 ^^^ y / 1024 = s1 y) := Lib.hid ⟨rfl, rfl⟩
      rw [HE.out.1] at e2
      rw [HE.out.2] at e4
      simp only [Int.natCast_ediv, Int.cast_ofNat_Int] at e2 e4
      go_wp2
      go_quiet (fail)
      have HDd : Hid (Bk (wr.drewN nq) w.heap.size cs 56) := Lib.hid HD.out
      have HRd : Hid (Bk (wr.drewN nq) (w.heap.size + 1) Z 68) := Lib.hid HRb.out
      have HWd2 : Hid (Bk (wr.drewN nq) (w.heap.size + 1 + 1) (lay Z 0 (sl.map U)) 68) := Lib.hid HW.out
      have HFd : Hid (Fr0 w (wr.drewN nq)) := Lib.hid (HF.out.drewN nq)
      have hvd : (wr.drewN nq).cell? ⟨w.heap.size + 1 + 1, k, none⟩ = some v1 := hv1
      have hfd : (wr.drewN nq).frozen? ⟨w.heap.size + 1 + 1, k, none⟩ = false := hfz
      have r7d : (wr.drewN nq).cell? ⟨w.heap.size + 1 + 1, k - 7, none⟩ = some (.int .u32 (v : Int)) := r7
      have r16d : (wr.drewN nq).cell? ⟨w.heap.size + 1 + 1, k - 16, none⟩ = some (.int .u32 (u : Int)) := r16
      clear r2 r15 r7 r16 hv1 hfz
      generalize wr.drewN nq = w2 at *
      go_wp2_with (first | (go_at_call 52; (with_reducible refine (rl_7 x _ hx).mono ?_); rintro e w1 ⟨rfl, rfl⟩) | (go_at_call 52; (with_reducible refine (rl_18 x _ hx).mono ?_); rintro e w1 ⟨rfl, rfl⟩) | (go_at_call 52; (with_reducible refine (rl_17 y _ hy).mono ?_); rintro e w1 ⟨rfl, rfl⟩) | (go_at_call 52; (with_reducible refine (rl_19 y _ hy).mono ?_); rintro e w1 ⟨rfl, rfl⟩))
      have f16 : IntKind.i64.wrap ((k : Int) - 16) = ((k - 16 : Nat) : Int) := by simp [IntKind.wrap, IntKind.bits, IntKind.signed]; omega
      have f7 : IntKind.i64.wrap ((k : Int) - 7) = ((k - 7 : Nat) : Int) := by simp [IntKind.wrap, IntKind.bits, IntKind.signed]; omega
      have g16 : ((k - 16 : Nat) : Int) < 64 := by omega
      have g7 : ((k - 7 : Nat) : Int) < 64 := by omega
      go_still_tail 14, (by kernel_rfl)
      change wpList _ _ _ _ _ w2.drew
      have HDe : Hid (Bk w2.drew w.heap.size cs 56) := Lib.hid HDd.out
      have HRe : Hid (Bk w2.drew (w.heap.size + 1) Z 68) := Lib.hid HRd.out
      have HWe : Hid (Bk w2.drew (w.heap.size + 1 + 1) (lay Z 0 (sl.map U)) 68) := Lib.hid HWd2.out
      have HFe : Hid (Fr0 w w2.drew) := Lib.hid HFd.out.drew
      have hve : w2.drew.cell? ⟨w.heap.size + 1 + 1, k, none⟩ = some v1 := hvd
      have hfe : w2.drew.frozen? ⟨w.heap.size + 1 + 1, k, none⟩ = false := hfd
      clear r7d r16d hvd hfd
      generalize w2.drew = w3 at *
      go_wp2
      refine ⟨⟨k + 1, by omega, by go_num, Bk.setOther HDe.out _ _ (by simp; omega), Bk.setOther HRe.out _ _ (by simp), ?_, HFe.out.set _ _ (.inl (by simp; omega))⟩, by simp [intOf]; omega⟩
      rw [HX.out, List.map_append, List.map_singleton, lay_snoc, List.length_map, HNW.out, Nat.zero_add, HN.out]
      refine (HWe.out.set _ _).trans ?_
      congr 4

end Go.Proofs.YtjkaenhopkigdaaDoor.ShaSpread
