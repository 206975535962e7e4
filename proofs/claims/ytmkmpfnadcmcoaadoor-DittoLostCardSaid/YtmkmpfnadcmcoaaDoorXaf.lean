/- The theorems that the claim uses, text behind text (part 6). -/
import Derived.Test.YtmkmpfnadcmcoaaDoorXaa
import Derived.Test.YtmkmpfnadcmcoaaDoorXae
set_option maxRecDepth 100000
set_option linter.unusedVariables false
set_option linter.unusedSimpArgs false
namespace Go.Proofs.YtmkmpfnadcmcoaaDoor.ShaSpread
open Go Go.RowKit Go.Proofs.YtmkmpfnadcmcoaaDoor.K Go.Proofs.YtmkmpfnadcmcoaaDoor.ShaRot Go.Proofs.YtmkmpfnadcmcoaaDoor.ArrKit
def U (n : Nat) : Value := .int .u32 (n : Int)
def s0 (x : Nat) : Nat := rot x 7 ^^^ rot x 18 ^^^ x / 8
def s1 (x : Nat) : Nat := rot x 17 ^^^ rot x 19 ^^^ x / 1024
def at0 (l : List Nat) (i : Nat) : Nat := l.getD i 0
def wnext (l : List Nat) : Nat := (at0 l (l.length - 16) + s0 (at0 l (l.length - 15)) + at0 l (l.length - 7) + s1 (at0 l (l.length - 2))) % 4294967296
def byte (b : List UInt8) (i : Nat) : Nat := (b.getD i 0).toNat
def word (b : List UInt8) (t : Nat) : Nat := byte b (4 * t) * 16777216 ||| byte b (4 * t + 1) * 65536 ||| byte b (4 * t + 2) * 256 ||| byte b (4 * t + 3)
/-- the first k numbers that a block is spread to -/
def sched (b : List UInt8) : Nat → List Nat
  | 0 => []
  | t + 1 => sched b t ++ [if t < 16 then word b t else wnext (sched b t)]
@[simp] theorem sched_length (b : List UInt8) (k : Nat) : (sched b k).length = k := by
  induction k with
  | zero => rfl
  | succ k ih => simp [sched, ih]
theorem byte_lt8 (b : List UInt8) (i : Nat) : byte b i < 256 := (b.getD i 0).toNat_lt
theorem word_lt (b : List UInt8) (t : Nat) : word b t < 4294967296 := by
  have h0 := byte_lt8 b (4 * t)
  have h1 := byte_lt8 b (4 * t + 1)
  have h2 := byte_lt8 b (4 * t + 2)
  have h3 := byte_lt8 b (4 * t + 3)
  exact or_lt (or_lt (or_lt (by omega) (by omega)) (by omega)) (by omega)
theorem sched_lt (b : List UInt8) (k : Nat) : ∀ x ∈ sched b k, x < 4294967296 := by
  induction k with
  | zero => intro x h; cases h
  | succ k ih =>
    intro x h
    simp only [sched, List.mem_append, List.mem_singleton] at h
    rcases h with h | h
    · exact ih x h
    · rw [h]; split
      · exact word_lt _ _
      · exact Nat.mod_lt _ (by decide)
theorem at0_lt {b : List UInt8} {k : Nat} (i : Nat) : at0 (sched b k) i < 4294967296 := by
  unfold at0
  rw [List.getD_eq_getElem?_getD]
  cases h : (sched b k)[i]? with
  | none => simp
  | some x => exact sched_lt b k x (List.mem_of_getElem? h)
/-- 64 zeros -/
def Z : Array Value := #[.int .u32 0,.int .u32 0,.int .u32 0,.int .u32 0,.int .u32 0,.int .u32 0,.int .u32 0,.int .u32 0,.int .u32 0,.int .u32 0,.int .u32 0,.int .u32 0,.int .u32 0,.int .u32 0,.int .u32 0,.int .u32 0,.int .u32 0,.int .u32 0,.int .u32 0,.int .u32 0,.int .u32 0,.int .u32 0,.int .u32 0,.int .u32 0,.int .u32 0,.int .u32 0,.int .u32 0,.int .u32 0,.int .u32 0,.int .u32 0,.int .u32 0,.int .u32 0,.int .u32 0,.int .u32 0,.int .u32 0,.int .u32 0,.int .u32 0,.int .u32 0,.int .u32 0,.int .u32 0,.int .u32 0,.int .u32 0,.int .u32 0,.int .u32 0,.int .u32 0,.int .u32 0,.int .u32 0,.int .u32 0,.int .u32 0,.int .u32 0,.int .u32 0,.int .u32 0,.int .u32 0,.int .u32 0,.int .u32 0,.int .u32 0,.int .u32 0,.int .u32 0,.int .u32 0,.int .u32 0,.int .u32 0,.int .u32 0,.int .u32 0,.int .u32 0]
theorem Z_size : Z.size = 64 := rfl
theorem infoZ : (Tryd.prog.info? 103).map (·.size) = some Z.size := by kernel_rfl
theorem lay_full (vs : List Value) (cs : Array Value) (h : vs.length = cs.size) : lay cs 0 vs = vs.toArray := by
  apply Array.ext_getElem?
  intro i
  rw [lay_get]
  by_cases hi : i < cs.size
  · rw [if_pos ⟨Nat.zero_le _, by omega, hi⟩]; simp
  · rw [if_neg (by omega), Array.getElem?_eq_none (by omega)]; simp; omega
theorem all_lay (b : List UInt8) : (lay Z 0 ((sched b 64).map U)).all (·.oneCell') = true := by
  rw [lay_full _ _ (by rw [List.length_map, sched_length, Z_size])]
  simp [U, Value.oneCell']
set_option maxHeartbeats 2000000 in
set_option maxRecDepth 100000 in
theorem slice_lo (k : Nat) (w : World) (g : Nat) (h : 4 * k < 64) : (Instr.sliceAt 77 (.pointer (some ⟨g, 0, none⟩)) (some (.int .i64 (4 * (k : Int)))) none none).run Tryd.prog w = .ok (.slice (some ⟨g, 4 * k, none⟩) (64 - 4 * k) (64 - 4 * k)) w := by
  have t1 : Tryd.prog.underlying 77 = some (.array (Tryd.prog.arrayLen 77) (Tryd.prog.elem 77)) := by kernel_rfl
  have t2 : Tryd.prog.arrayLen 77 = 64 := by kernel_rfl
  have t3 : Tryd.prog.elem 77 = 5 := by kernel_rfl
  rw [run_sliceAt_array_l w 77 _ t1 .i64 _ (by omega) (by rw [t2]; omega), t2, t3]
  have hs : (sizeOf 5).run Tryd.prog w = .ok 1 w := by kernel_rfl
  rw [hs]
  have e : (4 * (k : Int)).toNat = 4 * k := by omega
  simp only [Result.andThen_ok, slicedAt, e]
  rw [if_neg (by omega), Nat.mul_one]
  simp [Addr.add]
  omega
set_option maxHeartbeats 2000000 in
set_option maxRecDepth 100000 in
theorem spread_calls (b : List UInt8) (w : World) (hb : b.length = 64) :
    Calls Tryd.prog 68 #[.agg (b.map B).toArray] w fun e w' => e = .returned (.agg ((sched b 64).map U).toArray) ∧ Fr0 w w' := by
  have HB := Lib.hid hb
  have hsz : ((b.map B).toArray).size = 64 := by simp [hb]
  generalize hcs : (b.map B).toArray = cs at *
  have HZ : Hid (cs.size = 64) := Lib.hid hsz
  have HC : Hid (∀ i (h : i < b.length), cs[i]? = some (B b[i])) := Lib.hid (fun i h => by rw [← hcs]; simp [h])
  clear hcs hsz hb
  go_enter Tryd.func68, Tryd.ntmps68
  go_wp2
  go_loopw [10] (fun u wr => ∃ k : Nat, k ≤ 64 ∧ u = .int .i64 k ∧ Bk wr w.heap.size cs 77 ∧ Bk wr (w.heap.size + 1) Z 103 ∧ Bk wr (w.heap.size + 1 + 1) (lay Z 0 ((sched b k).map U)) 103 ∧ Fr0 w wr) (fun u _ => 64 - (intOf u).toNat)
  case atStart =>
    have hR := Bk.new (w.alloc (.cells cs 77)) (.cells Z 103)
    have hW := Bk.new ((w.alloc (.cells cs 77)).alloc (.cells Z 103)) (.cells Z 103)
    have e1 : (w.alloc (.cells cs 77)).heap.size = w.heap.size + 1 := by simp
    have e2 : ((w.alloc (.cells cs 77)).alloc (.cells Z 103)).heap.size = w.heap.size + 1 + 1 := by simp
    rw [e1] at hR
    rw [e2] at hW
    exact ⟨0, by omega, rfl, Bk.alloc (Bk.alloc (Bk.new _ _) _) _, Bk.alloc hR _, hW, Fr.alloc (Fr.alloc (Fr.alloc (Fr.refl _ _) _) _) _⟩
  case round =>
    obtain ⟨k, hk, rfl, hbd, hbr, hbw, hfr⟩ := hrel
    have HD := Lib.hid hbd
    have HRb := Lib.hid hbr
    have HW := Lib.hid hbw
    have HF := Lib.hid hfr
    clear hbd hbr hbw hfr
    by_cases hlt : k < 64
    rotate_left
    · have c0 : decide ((k : Int) < 64) = false := decide_eq_false (by omega)
      obtain rfl : k = 64 := by omega
      go_wp2_with (first | (refine wpList_load_row rfl 103 _ rfl (w.heap.size + 1 + 1) rfl 103 _ (0, 0) _ HW.out Tryd.underlying103 rfl (by rw [lay_size]; exact infoZ) ?_) | (refine wpList_store_row rfl 103 _ _ rfl (w.heap.size + 1) _ rfl rfl 103 Z HRb.out (by rw [lay_size]; exact infoZ) (by rw [lay_size]) (all_lay b) ?_))
      refine fin_c (w.heap.size + 1) 103 ((sched b 64).map U).toArray (by rfl) (by rfl) (by rfl) Tryd.underlying103 (by rfl) (by rw [infoZ]; simp [Z_size]) ?_ ?_
      · have := ArrKit.Bk.row HRb.out (lay Z 0 ((sched b 64).map U))
        exact this.trans (by rw [lay_full _ _ (by rw [List.length_map, sched_length, Z_size])])
      · exact ⟨rfl, ArrKit.Fr.row HF.out _ _ (.inl (by omega))⟩
    have c0 : decide ((k : Int) < 64) = true := decide_eq_true (by omega)
    have hkW : (lay Z 0 ((sched b k).map U)).size = 64 := by rw [lay_size, Z_size]
    have HSZ := Lib.hid hkW
    obtain ⟨v1, hv1⟩ : ∃ v1, wr.cell? ⟨w.heap.size + 1 + 1, k, none⟩ = some v1 := ⟨_, (HW.out.cell k).trans (Array.getElem?_eq_getElem (by omega))⟩
    have hfz := HW.out.free k
    clear hkW
    by_cases h16 : k < 16
    · have c1 : decide ((k : Int) < 16) = true := decide_eq_true (by omega)
      have x1 : 4 * (k : Int) ≤ 64 := by omega
      have x2 : 4 * k < 64 := by omega
      have hby : ∀ j, j < 4 → wr.cell? ⟨w.heap.size, 4 * k + j, none⟩ = some (.int .u8 (byte b (4 * k + j) : Nat)) := fun j hj => by
        rw [HD.out.cell, HC.out _ (by rw [HB.out]; omega)]
        simp [byte, B, List.getD, List.getElem?_eq_getElem (show 4 * k + j < b.length by rw [HB.out]; omega)]
      have b0 := hby 0 (by omega)
      have b1 := hby 1 (by omega)
      have b2 := hby 2 (by omega)
      have b3 := hby 3 (by omega)
      rw [Nat.add_zero] at b0
      have l0 := byte_lt8 b (4 * k)
      have l1 := byte_lt8 b (4 * k + 1)
      have l2 := byte_lt8 b (4 * k + 2)
      have l3 := byte_lt8 b (4 * k + 3)
      have HX : Hid (sched b (k + 1) = sched b k ++ [word b k]) := Lib.hid (by simp [sched, h16])
      have HWd : Hid (word b k = byte b (4 * k) * 16777216 ||| byte b (4 * k + 1) * 65536 ||| byte b (4 * k + 2) * 256 ||| byte b (4 * k + 3)) := Lib.hid rfl
      clear hby
      have hsl := slice_lo k wr w.heap.size x2
      obtain ⟨L, hL⟩ : ∃ L, 64 - 4 * k = L := ⟨_, rfl⟩
      rw [hL] at hsl
      have y0 : (0 : Int) < (L : Int) := by omega
      have y1 : (1 : Int) < (L : Int) := by omega
      have y2 : (2 : Int) < (L : Int) := by omega
      have y3 : (3 : Int) < (L : Int) := by omega
      have z0 : 0 < L := by omega
      have z1 : 1 < L := by omega
      have z2 : 2 < L := by omega
      have z3 : 3 < L := by omega
      clear hL
      generalize byte b (4 * k) = q0 at *
      generalize byte b (4 * k + 1) = q1 at *
      generalize byte b (4 * k + 2) = q2 at *
      generalize byte b (4 * k + 3) = q3 at *
      have e1 := or32 (q0 * 16777216) (q1 * 65536) (by omega) (by omega)
      have e2 := or32 (q0 * 16777216 ||| q1 * 65536) (q2 * 256) (or_lt (by omega) (by omega)) (by omega)
      have e3 := or32 (q0 * 16777216 ||| q1 * 65536 ||| q2 * 256) q3 (or_lt (or_lt (by omega) (by omega)) (by omega)) (by omega)
      simp only [Int.natCast_mul, Int.cast_ofNat_Int] at e1 e2 e3
      go_wp2_with fail
      go_still_tail 23, (by kernel_rfl)
      change wpList _ _ _ _ _ wr.drew
      have HDd : Hid (Bk wr.drew w.heap.size cs 77) := Lib.hid HD.out
      have HRd : Hid (Bk wr.drew (w.heap.size + 1) Z 103) := Lib.hid HRb.out
      have HWd2 : Hid (Bk wr.drew (w.heap.size + 1 + 1) (lay Z 0 ((sched b k).map U)) 103) := Lib.hid HW.out
      have HFd : Hid (Fr0 w wr.drew) := Lib.hid HF.out.drew
      have hvd : wr.drew.cell? ⟨w.heap.size + 1 + 1, k, none⟩ = some v1 := hv1
      have hfd : wr.drew.frozen? ⟨w.heap.size + 1 + 1, k, none⟩ = false := hfz
      clear b0 b1 b2 b3 hsl hv1 hfz
      generalize wr.drew = w2 at *
      go_wp2
      refine ⟨⟨k + 1, by omega, by go_num, Bk.setOther HDd.out _ _ (by simp; omega), Bk.setOther HRd.out _ _ (by simp), ?_, HFd.out.set _ _ (.inl (by simp; omega))⟩, by simp [intOf]; omega⟩
      rw [HX.out, List.map_append, List.map_singleton, lay_snoc, List.length_map, sched_length, Nat.zero_add, HWd.out]
      exact HWd2.out.set _ _
    · have c1 : decide ((k : Int) < 16) = false := decide_eq_false (by omega)
      have hcell : ∀ j, j < k → wr.cell? ⟨w.heap.size + 1 + 1, j, none⟩ = some (.int .u32 (at0 (sched b k) j : Nat)) := fun j hj => by
        rw [HW.out.cell, lay_get, if_pos ⟨Nat.zero_le _, by simp; omega, by rw [Z_size]; omega⟩, Nat.sub_zero, List.getElem?_map, at0, List.getD_eq_getElem?_getD, List.getElem?_eq_getElem (by simp; omega)]
        rfl
      have r2 := hcell (k - 2) (by omega)
      have r15 := hcell (k - 15) (by omega)
      have i2 : (0 : Int) ≤ (k : Int) - 2 := by omega
      have i15 : (0 : Int) ≤ (k : Int) - 15 := by omega
      have j2 : (k : Int) - 2 < 64 := by omega
      have j15 : (k : Int) - 15 < 64 := by omega
      have k2 : 2 ≤ k := by omega
      have k15 : 15 ≤ k := by omega
      have r16 := hcell (k - 16) (by omega)
      have r7 := hcell (k - 7) (by omega)
      have i16 : (0 : Int) ≤ (k : Int) - 16 := by omega
      have i7 : (0 : Int) ≤ (k : Int) - 7 := by omega
      have j16 : (k : Int) - 16 < 64 := by omega
      have j7 : (k : Int) - 7 < 64 := by omega
      have k16 : 16 ≤ k := by omega
      have k7 : 7 ≤ k := by omega
      have HX : Hid (sched b (k + 1) = sched b k ++ [wnext (sched b k)]) := Lib.hid (by simp [sched, h16])
      have HN : Hid (wnext (sched b k) = (at0 (sched b k) (k - 16) + s0 (at0 (sched b k) (k - 15)) + at0 (sched b k) (k - 7) + s1 (at0 (sched b k) (k - 2))) % 4294967296) := Lib.hid (by simp [wnext])
      have hx : at0 (sched b k) (k - 15) < 4294967296 := at0_lt _
      have hy : at0 (sched b k) (k - 2) < 4294967296 := at0_lt _
      have hu : at0 (sched b k) (k - 16) < 4294967296 := at0_lt _
      have hv : at0 (sched b k) (k - 7) < 4294967296 := at0_lt _
      have HNW : Hid ((sched b k).length = k) := Lib.hid (sched_length b k)
      clear hcell
      generalize at0 (sched b k) (k - 15) = x at *
      generalize at0 (sched b k) (k - 2) = y at *
      generalize at0 (sched b k) (k - 16) = u at *
      generalize at0 (sched b k) (k - 7) = v at *
      generalize wnext (sched b k) = nx at *
      generalize sched b k = sl at *
      have e1 := xor32 (rot x 7) (rot x 18) (rot_lt _ hx) (rot_lt _ hx)
      have e2 := xor32 (rot x 7 ^^^ rot x 18) (x / 8) (xor_lt (rot_lt _ hx) (rot_lt _ hx)) (by omega)
      have e3 := xor32 (rot y 17) (rot y 19) (rot_lt _ hy) (rot_lt _ hy)
      have e4 := xor32 (rot y 17 ^^^ rot y 19) (y / 1024) (xor_lt (rot_lt _ hy) (rot_lt _ hy)) (by omega)
      have HE : Hid (rot x 7 ^^^ rot x 18 ^^^ x / 8 = s0 x ∧ rot y 17 ^^^ rot y 19 ^^^ y / 1024 = s1 y) := Lib.hid ⟨rfl, rfl⟩
      rw [HE.out.1] at e2
      rw [HE.out.2] at e4
      simp only [Int.natCast_ediv, Int.cast_ofNat_Int] at e2 e4
      go_wp2
      go_quiet (fail)
      have HDd : Hid (Bk (wr.drewN nq) w.heap.size cs 77) := Lib.hid HD.out
      have HRd : Hid (Bk (wr.drewN nq) (w.heap.size + 1) Z 103) := Lib.hid HRb.out
      have HWd2 : Hid (Bk (wr.drewN nq) (w.heap.size + 1 + 1) (lay Z 0 (sl.map U)) 103) := Lib.hid HW.out
      have HFd : Hid (Fr0 w (wr.drewN nq)) := Lib.hid (HF.out.drewN nq)
      have hvd : (wr.drewN nq).cell? ⟨w.heap.size + 1 + 1, k, none⟩ = some v1 := hv1
      have hfd : (wr.drewN nq).frozen? ⟨w.heap.size + 1 + 1, k, none⟩ = false := hfz
      have r7d : (wr.drewN nq).cell? ⟨w.heap.size + 1 + 1, k - 7, none⟩ = some (.int .u32 (v : Int)) := r7
      have r16d : (wr.drewN nq).cell? ⟨w.heap.size + 1 + 1, k - 16, none⟩ = some (.int .u32 (u : Int)) := r16
      clear r2 r15 r7 r16 hv1 hfz
      generalize wr.drewN nq = w2 at *
      go_wp2_with (first | (go_at_call 71; (with_reducible refine (rl_7 x _ hx).mono ?_); rintro e w1 ⟨rfl, rfl⟩) | (go_at_call 71; (with_reducible refine (rl_18 x _ hx).mono ?_); rintro e w1 ⟨rfl, rfl⟩) | (go_at_call 71; (with_reducible refine (rl_17 y _ hy).mono ?_); rintro e w1 ⟨rfl, rfl⟩) | (go_at_call 71; (with_reducible refine (rl_19 y _ hy).mono ?_); rintro e w1 ⟨rfl, rfl⟩))
      have f16 : IntKind.i64.wrap ((k : Int) - 16) = ((k - 16 : Nat) : Int) := by simp [IntKind.wrap, IntKind.bits, IntKind.signed]; omega
      have f7 : IntKind.i64.wrap ((k : Int) - 7) = ((k - 7 : Nat) : Int) := by simp [IntKind.wrap, IntKind.bits, IntKind.signed]; omega
      have g16 : ((k - 16 : Nat) : Int) < 64 := by omega
      have g7 : ((k - 7 : Nat) : Int) < 64 := by omega
      go_still_tail 14, (by kernel_rfl)
      change wpList _ _ _ _ _ w2.drew
      have HDe : Hid (Bk w2.drew w.heap.size cs 77) := Lib.hid HDd.out
      have HRe : Hid (Bk w2.drew (w.heap.size + 1) Z 103) := Lib.hid HRd.out
      have HWe : Hid (Bk w2.drew (w.heap.size + 1 + 1) (lay Z 0 (sl.map U)) 103) := Lib.hid HWd2.out
      have HFe : Hid (Fr0 w w2.drew) := Lib.hid HFd.out.drew
      have hve : w2.drew.cell? ⟨w.heap.size + 1 + 1, k, none⟩ = some v1 := hvd
      have hfe : w2.drew.frozen? ⟨w.heap.size + 1 + 1, k, none⟩ = false := hfd
      clear r7d r16d hvd hfd
      generalize w2.drew = w3 at *
      go_wp2
      refine ⟨⟨k + 1, by omega, by go_num, Bk.setOther HDe.out _ _ (by simp; omega), Bk.setOther HRe.out _ _ (by simp), ?_, HFe.out.set _ _ (.inl (by simp; omega))⟩, by simp [intOf]; omega⟩
      rw [HX.out, List.map_append, List.map_singleton, lay_snoc, List.length_map, HNW.out, Nat.zero_add, HN.out]
      refine (HWe.out.set _ _).trans ?_
      congr 4

end Go.Proofs.YtmkmpfnadcmcoaaDoor.ShaSpread
namespace Go.Proofs.YtmkmpfnadcmcoaaDoor.ShaStep
open Go Go.RowKit Go.Proofs.YtmkmpfnadcmcoaaDoor.K Go.Proofs.YtmkmpfnadcmcoaaDoor.ShaRot Go.Proofs.YtmkmpfnadcmcoaaDoor.ArrKit Go.Proofs.YtmkmpfnadcmcoaaDoor.ShaSpread
/-- what a step works on -/
structure S8 where
  (a b c d e f g h : Nat)
def S8.ok (s : S8) : Prop := s.a < 4294967296 ∧ s.b < 4294967296 ∧ s.c < 4294967296 ∧ s.d < 4294967296 ∧ s.e < 4294967296 ∧ s.f < 4294967296 ∧ s.g < 4294967296 ∧ s.h < 4294967296
def S8.list (s : S8) : List Nat := [s.a, s.b, s.c, s.d, s.e, s.f, s.g, s.h]
def big0 (a : Nat) : Nat := rot a 2 ^^^ rot a 13 ^^^ rot a 22
def big1 (e : Nat) : Nat := rot e 6 ^^^ rot e 11 ^^^ rot e 25
def ch (e f g : Nat) : Nat := g ^^^ (e &&& (f ^^^ g))
def maj (a b c : Nat) : Nat := (a &&& b) ||| (c &&& (a ||| b))
def tp (s : S8) (k w : Nat) : Nat := (s.h + big1 s.e + ch s.e s.f s.g + k + w) % 4294967296
def tq (s : S8) : Nat := (big0 s.a + maj s.a s.b s.c) % 4294967296
def rnd (s : S8) (k w : Nat) : S8 := ⟨(tp s k w + tq s) % 4294967296, s.a, s.b, s.c, (s.d + tp s k w) % 4294967296, s.e, s.f, s.g⟩
def rounds (K W : List Nat) (s : S8) : Nat → S8
  | 0 => s
  | t + 1 => rnd (rounds K W s t) (at0 K t) (at0 W t)
theorem rnd_ok {s : S8} (h : s.ok) (k w : Nat) : (rnd s k w).ok := by
  obtain ⟨h1, h2, h3, h4, h5, h6, h7, h8⟩ := h
  exact ⟨Nat.mod_lt _ (by decide), h1, h2, h3, Nat.mod_lt _ (by decide), h5, h6, h7⟩
theorem rounds_ok {K W : List Nat} {s : S8} (h : s.ok) (t : Nat) : (rounds K W s t).ok := by
  induction t with
  | zero => exact h
  | succ t ih => exact rnd_ok ih _ _
def cubes : List Nat := [1116352408, 1899447441, 3049323471, 3921009573, 961987163, 1508970993, 2453635748, 2870763221, 3624381080, 310598401, 607225278, 1426881987, 1925078388, 2162078206, 2614888103, 3248222580, 3835390401, 4022224774, 264347078, 604807628, 770255983, 1249150122, 1555081692, 1996064986, 2554220882, 2821834349, 2952996808, 3210313671, 3336571891, 3584528711, 113926993, 338241895, 666307205, 773529912, 1294757372, 1396182291, 1695183700, 1986661051, 2177026350, 2456956037, 2730485921, 2820302411, 3259730800, 3345764771, 3516065817, 3600352804, 4094571909, 275423344, 430227734, 506948616, 659060556, 883997877, 958139571, 1322822218, 1537002063, 1747873779, 1955562222, 2024104815, 2227730452, 2361852424, 2428436474, 2756734187, 3204031479, 3329325298]
def begins : S8 := ⟨1779033703, 3144134277, 1013904242, 2773480762, 1359893119, 2600822924, 528734635, 1541459225⟩
/-- a step: over 64 bytes -/
def stepOf (s : S8) (b : List UInt8) : S8 :=
  let r := rounds cubes (sched b 64) s 64
  ⟨(s.a + r.a) % 4294967296, (s.b + r.b) % 4294967296, (s.c + r.c) % 4294967296, (s.d + r.d) % 4294967296, (s.e + r.e) % 4294967296, (s.f + r.f) % 4294967296, (s.g + r.g) % 4294967296, (s.h + r.h) % 4294967296⟩
theorem stepOf_ok (s : S8) (b : List UInt8) : (stepOf s b).ok := by
  refine ⟨?_, ?_, ?_, ?_, ?_, ?_, ?_, ?_⟩ <;> exact Nat.mod_lt _ (by decide)

def Z8 : Array Value := #[.int .u32 0, .int .u32 0, .int .u32 0, .int .u32 0, .int .u32 0, .int .u32 0, .int .u32 0, .int .u32 0]
def KC : Array Value := (cubes.map U).toArray
theorem cubes_get (k : Nat) (h : k < 64) : KC[k]? = some (.int .u32 (at0 cubes k : Nat)) := by
  simp only [KC, at0, List.getD_eq_getElem?_getD]
  rw [List.getElem?_toArray, List.getElem?_map, List.getElem?_eq_getElem (show k < cubes.length from h)]
  rfl
theorem cubes_lt (k : Nat) : at0 cubes k < 4294967296 := by
  have : ∀ x ∈ cubes, x < 4294967296 := by decide
  unfold at0
  rw [List.getD_eq_getElem?_getD]
  cases h : cubes[k]? with
  | none => simp
  | some x => exact this x (List.mem_of_getElem? h)
theorem info8a : (Tryd.prog.info? 75).map (·.size) = some 8 := by kernel_rfl
theorem u32_eq {a b : Int} (h : a = b) : Value.int .u32 a = .int .u32 b := by rw [h]
theorem index_arr {t e : TypeId} {n : Nat} {P : Program} {cs : Array Value} {v : Value} {k : Nat} (w : World) (hu : P.underlying t = some (.array n e)) (hs : (P.info? e).map (·.size) = some 1) (ha : (isAgg e).run P w = .ok false w) (hk : k < n) (hv : cs[k]? = some v) :
    (Instr.index t (.agg cs) (.int .i64 (k : Int))).run P w = .ok v w := by
  have hn : (0 ≤ (k : Int) ∧ (k : Int) < (n : Int)) := by omega
  cases hq : P.info? e with
  | none => simp [hq] at hs
  | some i =>
    have hi : i.size = 1 := by simpa [hq] using hs
    simp [Instr.index, run_underlying hu, asIntOf, hn, hk, go_sem, sizeOf, typeInfo, hq, hi, ha, hv]
set_option maxHeartbeats 2000000 in
set_option maxRecDepth 100000 in
theorem step_calls (s : S8) (hs : s.ok) (b : List UInt8) (w : World) (hb : b.length = 64) {tk : TypeId} (hK : Bk w 1 KC tk) :
    Calls Tryd.prog 58 #[.agg (s.list.map U).toArray, .agg (b.map B).toArray] w fun e w' => e = .returned (.agg ((stepOf s b).list.map U).toArray) ∧ Fr0 w w' := by
  have HS := Lib.hid hs
  generalize hres : ((stepOf s b).list.map U).toArray = res
  have HRES := Lib.hid hres
  clear hres
  obtain ⟨a0, b0, c0, d0, e0, f0, g0, h0⟩ := s
  have HB := Lib.hid hb
  have hsz : ((b.map B).toArray).size = 64 := by simp [hb]
  have hcs : Hid ((b.map B).toArray = (b.map B).toArray) := Lib.hid rfl
  have HKl := Lib.hid (Bk.lt hK)
  have HK := Lib.hid hK
  clear hs hb hK
  simp only [S8.list, List.map_cons, List.map_nil, U]
  generalize hcs2 : (b.map B).toArray = cs at *
  have HC := Lib.hid hcs2
  have hz : cs.size = 64 := hsz
  have hinfo : (Tryd.prog.info? 77).map (·.size) = some 64 := by kernel_rfl
  have HI := Lib.hid hinfo
  have HZ := Lib.hid hz
  clear hcs2 hsz hcs hz hinfo
  go_enter Tryd.func58, Tryd.ntmps58
  go_wp2_with fail
  go_quiet (fail)
  have HH : Hid (Bk ((((w.alloc (.cells #[.int .u32 (a0 : Nat), .int .u32 (b0 : Nat), .int .u32 (c0 : Nat), .int .u32 (d0 : Nat), .int .u32 (e0 : Nat), .int .u32 (f0 : Nat), .int .u32 (g0 : Nat), .int .u32 (h0 : Nat)] 75)).alloc (.cells cs 77)).alloc (.cells Z8 75)).drewN nq) w.heap.size #[.int .u32 (a0 : Nat), .int .u32 (b0 : Nat), .int .u32 (c0 : Nat), .int .u32 (d0 : Nat), .int .u32 (e0 : Nat), .int .u32 (f0 : Nat), .int .u32 (g0 : Nat), .int .u32 (h0 : Nat)] 75) := Lib.hid (Bk.alloc (Bk.alloc (Bk.new _ _) _) _)
  have HD : Hid (Bk ((((w.alloc (.cells #[.int .u32 (a0 : Nat), .int .u32 (b0 : Nat), .int .u32 (c0 : Nat), .int .u32 (d0 : Nat), .int .u32 (e0 : Nat), .int .u32 (f0 : Nat), .int .u32 (g0 : Nat), .int .u32 (h0 : Nat)] 75)).alloc (.cells cs 77)).alloc (.cells Z8 75)).drewN nq) (w.heap.size + 1) cs 77) := Lib.hid (Bk.alloc (by have := Bk.new (w.alloc (.cells #[.int .u32 (a0 : Nat), .int .u32 (b0 : Nat), .int .u32 (c0 : Nat), .int .u32 (d0 : Nat), .int .u32 (e0 : Nat), .int .u32 (f0 : Nat), .int .u32 (g0 : Nat), .int .u32 (h0 : Nat)] 75)) (.cells cs 77); rwa [show (w.alloc (.cells #[.int .u32 (a0 : Nat), .int .u32 (b0 : Nat), .int .u32 (c0 : Nat), .int .u32 (d0 : Nat), .int .u32 (e0 : Nat), .int .u32 (f0 : Nat), .int .u32 (g0 : Nat), .int .u32 (h0 : Nat)] 75)).heap.size = w.heap.size + 1 by simp] at this) _)
  have HR : Hid (Bk ((((w.alloc (.cells #[.int .u32 (a0 : Nat), .int .u32 (b0 : Nat), .int .u32 (c0 : Nat), .int .u32 (d0 : Nat), .int .u32 (e0 : Nat), .int .u32 (f0 : Nat), .int .u32 (g0 : Nat), .int .u32 (h0 : Nat)] 75)).alloc (.cells cs 77)).alloc (.cells Z8 75)).drewN nq) (w.heap.size + 1 + 1) Z8 75) := Lib.hid (by have := Bk.new ((w.alloc (.cells #[.int .u32 (a0 : Nat), .int .u32 (b0 : Nat), .int .u32 (c0 : Nat), .int .u32 (d0 : Nat), .int .u32 (e0 : Nat), .int .u32 (f0 : Nat), .int .u32 (g0 : Nat), .int .u32 (h0 : Nat)] 75)).alloc (.cells cs 77)) (.cells Z8 75); rwa [show ((w.alloc (.cells #[.int .u32 (a0 : Nat), .int .u32 (b0 : Nat), .int .u32 (c0 : Nat), .int .u32 (d0 : Nat), .int .u32 (e0 : Nat), .int .u32 (f0 : Nat), .int .u32 (g0 : Nat), .int .u32 (h0 : Nat)] 75)).alloc (.cells cs 77)).heap.size = w.heap.size + 1 + 1 by simp] at this)
  have HK0 : Hid (Bk ((((w.alloc (.cells #[.int .u32 (a0 : Nat), .int .u32 (b0 : Nat), .int .u32 (c0 : Nat), .int .u32 (d0 : Nat), .int .u32 (e0 : Nat), .int .u32 (f0 : Nat), .int .u32 (g0 : Nat), .int .u32 (h0 : Nat)] 75)).alloc (.cells cs 77)).alloc (.cells Z8 75)).drewN nq) 1 KC tk) := Lib.hid (Bk.alloc (Bk.alloc (Bk.alloc HK.out _) _) _)
  have HF0 : Hid (Fr0 w ((((w.alloc (.cells #[.int .u32 (a0 : Nat), .int .u32 (b0 : Nat), .int .u32 (c0 : Nat), .int .u32 (d0 : Nat), .int .u32 (e0 : Nat), .int .u32 (f0 : Nat), .int .u32 (g0 : Nat), .int .u32 (h0 : Nat)] 75)).alloc (.cells cs 77)).alloc (.cells Z8 75)).drewN nq)) := Lib.hid ((Fr.alloc (Fr.alloc (Fr.alloc (Fr.refl _ _) _) _) _).drewN nq)
  have HZs : Hid (w.heap.size + 1 + 1 < ((((w.alloc (.cells #[.int .u32 (a0 : Nat), .int .u32 (b0 : Nat), .int .u32 (c0 : Nat), .int .u32 (d0 : Nat), .int .u32 (e0 : Nat), .int .u32 (f0 : Nat), .int .u32 (g0 : Nat), .int .u32 (h0 : Nat)] 75)).alloc (.cells cs 77)).alloc (.cells Z8 75)).drewN nq).heap.size) := Lib.hid (Bk.lt HR.out)
  change Exit.then _ _ _ _ ((((w.alloc (.cells #[.int .u32 (a0 : Nat), .int .u32 (b0 : Nat), .int .u32 (c0 : Nat), .int .u32 (d0 : Nat), .int .u32 (e0 : Nat), .int .u32 (f0 : Nat), .int .u32 (g0 : Nat), .int .u32 (h0 : Nat)] 75)).alloc (.cells cs 77)).alloc (.cells Z8 75)).drewN nq)
  generalize (((w.alloc (.cells #[.int .u32 (a0 : Nat), .int .u32 (b0 : Nat), .int .u32 (c0 : Nat), .int .u32 (d0 : Nat), .int .u32 (e0 : Nat), .int .u32 (f0 : Nat), .int .u32 (g0 : Nat), .int .u32 (h0 : Nat)] 75)).alloc (.cells cs 77)).alloc (.cells Z8 75)).drewN nq = w0 at *
  go_wp2_with (first | (refine wpList_load_row rfl 77 _ rfl (w.heap.size + 1) rfl 77 cs (0, 0) _ HD.out Tryd.underlying77 rfl (by rw [HZ.out]; exact HI.out) ?_) | (go_at_call 68; rw [← HC.out]; (with_reducible refine (spread_calls b _ HB.out).mono ?_); rintro e w1 ⟨rfl, hf1⟩; have HF1 := Lib.hid hf1; clear hf1))
  have GH : Hid (Bk w1 w.heap.size #[.int .u32 (a0 : Nat), .int .u32 (b0 : Nat), .int .u32 (c0 : Nat), .int .u32 (d0 : Nat), .int .u32 (e0 : Nat), .int .u32 (f0 : Nat), .int .u32 (g0 : Nat), .int .u32 (h0 : Nat)] 75) := Lib.hid (HF1.out.keep HH.out (fun h => h))
  have GR : Hid (Bk w1 (w.heap.size + 1 + 1) Z8 75) := Lib.hid (HF1.out.keep HR.out (fun h => h))
  have GK : Hid (Bk w1 1 KC tk) := Lib.hid (HF1.out.keep HK0.out (fun h => h))
  have GF : Hid (Fr0 w w1) := Lib.hid (HF0.out.then0 HF1.out)
  have HWk : Hid (∀ k, k < 64 → ((sched b 64).map U).toArray[k]? = some (.int .u32 (at0 (sched b 64) k : Nat))) := Lib.hid (fun k hk => by
    simp only [at0, List.getD_eq_getElem?_getD]
    rw [List.getElem?_toArray, List.getElem?_map, List.getElem?_eq_getElem (show k < (sched b 64).length by simp; omega)]
    rfl)
  have HWz : Hid (((sched b 64).map U).toArray.size = 64) := Lib.hid (by simp)
  have HWl : Hid (∀ k, at0 (sched b 64) k < 4294967296) := Lib.hid (fun k => at0_lt k)
  have HSO : Hid (stepOf ⟨a0, b0, c0, d0, e0, f0, g0, h0⟩ b = (let s : S8 := ⟨a0, b0, c0, d0, e0, f0, g0, h0⟩; let r := rounds cubes (sched b 64) s 64; ⟨(s.a + r.a) % 4294967296, (s.b + r.b) % 4294967296, (s.c + r.c) % 4294967296, (s.d + r.d) % 4294967296, (s.e + r.e) % 4294967296, (s.f + r.f) % 4294967296, (s.g + r.g) % 4294967296, (s.h + r.h) % 4294967296⟩)) := Lib.hid rfl
  generalize stepOf ⟨a0, b0, c0, d0, e0, f0, g0, h0⟩ b = out at *
  generalize ((sched b 64).map U).toArray = ws at *
  generalize sched b 64 = sl at *
  clear HF1 HH HD HR HK0 HF0 HZs
  go_loopw [5, 6, 7, 8, 9, 10, 11, 12, 37] (fun va vb vc vd ve vf vg vh i wr => ∃ (k : Nat) (r : S8), k ≤ 64 ∧ i = .int .i64 k ∧ r = rounds cubes sl ⟨a0, b0, c0, d0, e0, f0, g0, h0⟩ k ∧ va = .int .u32 (r.a : Nat) ∧ vb = .int .u32 (r.b : Nat) ∧ vc = .int .u32 (r.c : Nat) ∧ vd = .int .u32 (r.d : Nat) ∧ ve = .int .u32 (r.e : Nat) ∧ vf = .int .u32 (r.f : Nat) ∧ vg = .int .u32 (r.g : Nat) ∧ vh = .int .u32 (r.h : Nat) ∧ Bk wr w.heap.size #[.int .u32 (a0 : Nat), .int .u32 (b0 : Nat), .int .u32 (c0 : Nat), .int .u32 (d0 : Nat), .int .u32 (e0 : Nat), .int .u32 (f0 : Nat), .int .u32 (g0 : Nat), .int .u32 (h0 : Nat)] 75 ∧ Bk wr (w.heap.size + 1 + 1) Z8 75 ∧ Bk wr 1 KC tk ∧ Fr0 w wr) (fun _ _ _ _ _ _ _ _ i _ => 64 - (intOf i).toNat)
  case atStart => exact ⟨0, _, by omega, rfl, rfl, rfl, rfl, rfl, rfl, rfl, rfl, rfl, rfl, GH.out, GR.out, GK.out, GF.out⟩
  case round =>
    obtain ⟨k, r, hk, rfl, hr, rfl, rfl, rfl, rfl, rfl, rfl, rfl, rfl, hbh, hbr, hbk, hfr⟩ := hrel
    have hok : r.ok := hr ▸ rounds_ok HS.out k
    have HR := Lib.hid hr
    clear hr
    obtain ⟨a, b', c, d, e, f, g, h⟩ := r
    obtain ⟨l1, l2, l3, l4, l5, l6, l7, l8⟩ := hok
    have BH := Lib.hid hbh
    have BR := Lib.hid hbr
    have BK := Lib.hid hbk
    have BF := Lib.hid hfr
    clear hbh hbr hbk hfr GH GR GK GF
    simp only [] at l1 l2 l3 l4 l5 l6 l7 l8
    by_cases hlt : k < 64
    rotate_left
    · have cz : decide ((k : Int) < 64) = false := decide_eq_false (by omega)
      obtain rfl : k = 64 := by omega
      have HO : Hid (out = ⟨(a0 + a) % 4294967296, (b0 + b') % 4294967296, (c0 + c) % 4294967296, (d0 + d) % 4294967296, (e0 + e) % 4294967296, (f0 + f) % 4294967296, (g0 + g) % 4294967296, (h0 + h) % 4294967296⟩) := Lib.hid (by rw [HSO.out]; dsimp only; rw [← HR.out])
      have HOl : Hid (∀ i, i < 8 → at0 out.list i = (at0 [a0, b0, c0, d0, e0, f0, g0, h0] i + at0 [a, b', c, d, e, f, g, h] i) % 4294967296) := Lib.hid (fun i hi => by
        rw [HO.out]
        match i, hi with
        | 0, _ => rfl
        | 1, _ => rfl
        | 2, _ => rfl
        | 3, _ => rfl
        | 4, _ => rfl
        | 5, _ => rfl
        | 6, _ => rfl
        | 7, _ => rfl)
      have HH8 : Hid (∀ i, i < 8 → (#[.int .u32 (a0 : Nat), .int .u32 (b0 : Nat), .int .u32 (c0 : Nat), .int .u32 (d0 : Nat), .int .u32 (e0 : Nat), .int .u32 (f0 : Nat), .int .u32 (g0 : Nat), .int .u32 (h0 : Nat)] : Array Value)[i]? = some (.int .u32 (at0 [a0, b0, c0, d0, e0, f0, g0, h0] i : Nat))) := Lib.hid (fun i hi => by
        match i, hi with
        | 0, _ => rfl
        | 1, _ => rfl
        | 2, _ => rfl
        | 3, _ => rfl
        | 4, _ => rfl
        | 5, _ => rfl
        | 6, _ => rfl
        | 7, _ => rfl)
      have HR8 : Hid (∀ i, i < 8 → (#[.int .u32 (a : Nat), .int .u32 (b' : Nat), .int .u32 (c : Nat), .int .u32 (d : Nat), .int .u32 (e : Nat), .int .u32 (f : Nat), .int .u32 (g : Nat), .int .u32 (h : Nat)] : Array Value)[i]? = some (.int .u32 (at0 [a, b', c, d, e, f, g, h] i : Nat))) := Lib.hid (fun i hi => by
        match i, hi with
        | 0, _ => rfl
        | 1, _ => rfl
        | 2, _ => rfl
        | 3, _ => rfl
        | 4, _ => rfl
        | 5, _ => rfl
        | 6, _ => rfl
        | 7, _ => rfl)
      have HOL : Hid (out.list.length = 8) := Lib.hid rfl
      clear HO HSO HWk HWz HWl HS l1 l2 l3 l4 l5 l6 l7 l8 hk cz
      go_wp2
      go_loopw [93] (fun i wr => ∃ k : Nat, k ≤ 8 ∧ i = .int .i64 k ∧ Bk wr w.heap.size (lay #[.int .u32 (a0 : Nat), .int .u32 (b0 : Nat), .int .u32 (c0 : Nat), .int .u32 (d0 : Nat), .int .u32 (e0 : Nat), .int .u32 (f0 : Nat), .int .u32 (g0 : Nat), .int .u32 (h0 : Nat)] 0 ((out.list.map U).take k)) 75 ∧ Bk wr (w.heap.size + 1 + 1) Z8 75 ∧ Fr0 w wr) (fun i _ => 8 - (intOf i).toNat)
      case atStart => exact ⟨0, by omega, rfl, BH.out, BR.out, BF.out⟩
      case round =>
        obtain ⟨k, hk, rfl, hbh, hbr, hfr⟩ := hrel
        have LH := Lib.hid hbh
        have LR := Lib.hid hbr
        have LF := Lib.hid hfr
        clear hbh hbr hfr BH BR BF BK
        by_cases hlt : k < 8
        rotate_left
        · have cz : decide ((k : Int) < 8) = false := decide_eq_false (by omega)
          obtain rfl : k = 8 := by omega
          have LX : Hid (Bk wr w.heap.size (out.list.map U).toArray 75) := Lib.hid (by
            have := LH.out
            rwa [List.take_of_length_le (by rw [List.length_map, HOL.out]; exact Nat.le_refl _), lay_full _ _ (by rw [List.length_map, HOL.out]; rfl)] at this)
          clear LH
          go_wp2_with (first | (refine wpList_load_row rfl 75 _ rfl w.heap.size rfl 75 _ (0, 0) _ LX.out Tryd.underlying75 rfl (by rw [info8a]; simp [HOL.out]) ?_) | (refine wpList_store_row rfl 75 _ _ rfl (w.heap.size + 1 + 1) _ rfl rfl 75 Z8 LR.out (by rw [info8a]; simp [HOL.out]) (by simp [HOL.out, Z8]) (by simp [U, Value.oneCell']) ?_))
          refine fin_c (w.heap.size + 1 + 1) 75 (out.list.map U).toArray (by rfl) (by rfl) (by rfl) Tryd.underlying75 (by rfl) (by rw [info8a]; simp [HOL.out]) (ArrKit.Bk.row LR.out _) ?_
          rw [HRES.out]
          exact ⟨rfl, ArrKit.Fr.row LF.out _ _ (.inl (by omega))⟩
        · have cz : decide ((k : Int) < 8) = true := decide_eq_true (by omega)
          have hidx := index_arr (P := Tryd.prog) wr Tryd.underlying75 (e := 74) (by kernel_rfl) (by kernel_rfl) hlt (HR8.out k hlt)
          have hcl : wr.cell? ⟨w.heap.size, k, none⟩ = some (.int .u32 (at0 [a0, b0, c0, d0, e0, f0, g0, h0] k : Nat)) := by
            rw [LH.out.cell, lay_get, if_neg (by simp; omega)]
            exact HH8.out k hlt
          have hfz := LH.out.free k
          have HV := Lib.hid (HOl.out k hlt)
          generalize at0 [a0, b0, c0, d0, e0, f0, g0, h0] k = p at *
          generalize at0 [a, b', c, d, e, f, g, h] k = q at *
          go_wp2
          have hv : (out.list.map U)[k]'(by rw [List.length_map, HOL.out]; exact hlt) = .int .u32 (((p : Int) + q) % 4294967296) := by
            have h1 : out.list[k]'(by rw [HOL.out]; exact hlt) = (p + q) % 4294967296 := by
              have := HV.out
              rwa [at0, List.getD_eq_getElem?_getD, List.getElem?_eq_getElem (by rw [HOL.out]; exact hlt)] at this
            rw [List.getElem_map, h1, U]
            rfl
          refine ⟨⟨k + 1, by omega, by go_num, ?_, Bk.setOther LR.out _ _ (by simp; omega), LF.out.set _ _ (.inl (by simp))⟩, by simp [intOf]; omega⟩
          rw [lay_take (by rw [List.length_map, HOL.out]; exact hlt), hv, Nat.zero_add]
          exact LH.out.set _ _
    · have cz : decide ((k : Int) < 64) = true := decide_eq_true (by omega)
      have hw := HWk.out k hlt
      have hcu : wr.cell? ⟨1, k, none⟩ = some (.int .u32 (at0 cubes k : Nat)) := (BK.out.cell k).trans (cubes_get k hlt)
      have hwl := HWl.out k
      have hkl := cubes_lt k
      have HN : Hid (rounds cubes sl ⟨a0, b0, c0, d0, e0, f0, g0, h0⟩ (k + 1) = rnd ⟨a, b', c, d, e, f, g, h⟩ (at0 cubes k) (at0 sl k)) := Lib.hid (by rw [rounds, ← HR.out])
      have x1 := xor32 f g l6 l7
      have x2 := and32 e (f ^^^ g) l5 (xor_lt l6 l7)
      have x3 := xor32 g (e &&& (f ^^^ g)) l7 (and_lt l5)
      have HCH : Hid (g ^^^ (e &&& (f ^^^ g)) = ch e f g) := Lib.hid rfl
      rw [HCH.out] at x3
      have x4 := and32 a b' l1 l2
      have x5 := or32 a b' l1 l2
      have x6 := and32 c (a ||| b') l3 (or_lt l1 l2)
      have x7 := or32 (a &&& b') (c &&& (a ||| b')) (and_lt l1) (and_lt l3)
      have HMJ : Hid ((a &&& b') ||| (c &&& (a ||| b')) = maj a b' c) := Lib.hid rfl
      rw [HMJ.out] at x7
      have hidx := index_arr (P := Tryd.prog) wr Tryd.underlying103 (e := 74) (by kernel_rfl) (by kernel_rfl) hlt hw
      clear hw
      generalize at0 cubes k = kt at *
      generalize at0 sl k = xt at *
      go_wp2_with fail
      go_quiet (first | (go_at_call 69; refine Calls.quiet_of_same ((mixed_6 e _ l5).mono fun _ _ h => ⟨h.1, h.2.symm⟩)))
      have NH : Hid (Bk (wr.drewN nq) w.heap.size #[.int .u32 (a0 : Nat), .int .u32 (b0 : Nat), .int .u32 (c0 : Nat), .int .u32 (d0 : Nat), .int .u32 (e0 : Nat), .int .u32 (f0 : Nat), .int .u32 (g0 : Nat), .int .u32 (h0 : Nat)] 75) := Lib.hid BH.out
      have NR : Hid (Bk (wr.drewN nq) (w.heap.size + 1 + 1) Z8 75) := Lib.hid BR.out
      have NK : Hid (Bk (wr.drewN nq) 1 KC tk) := Lib.hid BK.out
      have NF : Hid (Fr0 w (wr.drewN nq)) := Lib.hid (BF.out.drewN nq)
      change Exit.then _ _ _ _ (wr.drewN nq)
      clear hcu hidx
      generalize wr.drewN nq = w2 at *
      go_wp2_with (go_at_call 69; (with_reducible refine (mixed_2 a _ l1).mono ?_); rintro e w3 ⟨rfl, rfl⟩)
      refine ⟨⟨k + 1, rnd ⟨a, b', c, d, e, f, g, h⟩ kt xt, by omega, by go_num, HN.out.symm, u32_eq ?_, rfl, rfl, rfl, u32_eq ?_, rfl, rfl, rfl, NH.out, NR.out, NK.out, NF.out⟩, by simp [intOf]; omega⟩
      · simp only [rnd, tp, tq, big0, big1]
        omega
      · simp only [rnd, tp, tq, big0, big1]
        omega

end Go.Proofs.YtmkmpfnadcmcoaaDoor.ShaStep
namespace Go.Proofs.YtmkmpfnadcmcoaaDoor.ShaPlain
open Go Go.RowKit Go.Proofs.YtmkmpfnadcmcoaaDoor.K Go.Proofs.YtmkmpfnadcmcoaaDoor.ShaStep
theorem maj_eq (a b c : Nat) : (a &&& b) ^^^ (a &&& c) ^^^ (b &&& c) = maj a b c := Nat.eq_of_testBit_eq fun i => by
  simp only [maj, Nat.testBit_xor, Nat.testBit_and, Nat.testBit_or]
  cases a.testBit i <;> cases b.testBit i <;> cases c.testBit i <;> rfl
theorem not_bit {e : Nat} (he : e < 4294967296) (i : Nat) : (4294967295 - e).testBit i = (decide (i < 32) && !e.testBit i) := by
  have := Nat.testBit_two_pow_sub_succ (x := e) (n := 32) he i
  rw [← this]
  congr 1
  omega
theorem ch_eq {e f g : Nat} (he : e < 4294967296) (hg : g < 4294967296) : (e &&& f) ^^^ ((4294967295 - e) &&& g) = ch e f g := Nat.eq_of_testBit_eq fun i => by
  simp only [ch, Nat.testBit_xor, Nat.testBit_and, not_bit he]
  by_cases hi : i < 32
  · simp only [hi, decide_true, Bool.true_and]
    cases e.testBit i <;> cases f.testBit i <;> cases g.testBit i <;> rfl
  · have h1 : g.testBit i = false := Nat.testBit_lt_two_pow (Nat.lt_of_lt_of_le hg (Nat.pow_le_pow_right (n := 2) (by decide) (show 32 ≤ i by omega)))
    have h2 : e.testBit i = false := Nat.testBit_lt_two_pow (Nat.lt_of_lt_of_le he (Nat.pow_le_pow_right (n := 2) (by decide) (show 32 ≤ i by omega)))
    simp [hi, h1, h2]

end Go.Proofs.YtmkmpfnadcmcoaaDoor.ShaPlain
