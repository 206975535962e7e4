/- Numbers in fixed room: the walks of word.cut and word.Put. -/
import Derived.Test.YtfjkbabeceaelaaKit
import Derived.Test.YtfjkbabeceaelaaProg
import Derived.Outline
import Derived.Laws.ShiftsVar
import Derived.LoopTactic
set_option linter.unusedVariables false
set_option linter.unusedSimpArgs false
namespace Go.Proofs.Ytfjkbabeceaelaa.WordPut
open Go Go.RowKit Go.Proofs.Ytfjkbabeceaelaa.K

theorem ret_cut {a a' : Option Addr} {n n' c c' : Nat} {b b' : Bool} (h1 : a = a') (h2 : n = n') (h3 : c = c') (h4 : b = b') : Ending.returned (.tuple #[.slice a n c, .bool b]) = .returned (.tuple #[.slice a' n' c', .bool b']) := by rw [h1, h2, h3, h4]

/-- no such place -/
def NoRoom (n : Nat) (p s : Int) : Prop := p < 0 ∨ (n : Int) < p ∨ (n : Int) - p < s

set_option maxHeartbeats 2000000 in
set_option maxRecDepth 100000 in
theorem cut_neg (a : Option Addr) (n c : Nat) (p s : Int) (w : World) (hn : n ≤ 140737488351232) (h : p < 0) :
    Calls Try.prog 33 #[.slice a n c, .int .i64 p, .int .i64 s] w fun e w' => e = .returned (.tuple #[.slice none 0 0, .bool false]) ∧ w = w' := by
  have c0 : decide (p < 0) = true := decide_eq_true h
  go_enter Try.func33, Try.ntmps33
  go_wp2
  go_ret2
  exact ⟨rfl, rfl⟩

set_option maxHeartbeats 2000000 in
set_option maxRecDepth 100000 in
theorem cut_far (a : Option Addr) (n c : Nat) (p s : Int) (w : World) (hn : n ≤ 140737488351232) (h : 0 ≤ p) (h1 : (n : Int) < p) :
    Calls Try.prog 33 #[.slice a n c, .int .i64 p, .int .i64 s] w fun e w' => e = .returned (.tuple #[.slice none 0 0, .bool false]) ∧ w = w' := by
  have c0 : decide (p < 0) = false := decide_eq_false (by omega)
  have c1 : decide ((n : Int) < p) = true := decide_eq_true h1
  go_enter Try.func33, Try.ntmps33
  go_wp2
  go_ret2
  exact ⟨rfl, rfl⟩

set_option maxHeartbeats 2000000 in
set_option maxRecDepth 100000 in
theorem cut_big (a : Option Addr) (n c : Nat) (p s : Int) (w : World) (hn : n ≤ 140737488351232) (h : 0 ≤ p) (h1 : p ≤ n) (h2 : (n : Int) - p < s) :
    Calls Try.prog 33 #[.slice a n c, .int .i64 p, .int .i64 s] w fun e w' => e = .returned (.tuple #[.slice none 0 0, .bool false]) ∧ w = w' := by
  have c0 : decide (p < 0) = false := decide_eq_false (by omega)
  have c1 : decide ((n : Int) < p) = false := decide_eq_false (by omega)
  have c2 : decide ((n : Int) - p < s) = true := decide_eq_true h2
  go_enter Try.func33, Try.ntmps33
  go_wp2
  go_ret2
  exact ⟨rfl, rfl⟩

theorem cut_no (a : Option Addr) (n c : Nat) (p s : Int) (w : World) (hn : n ≤ 140737488351232) (h : NoRoom n p s) :
    Calls Try.prog 33 #[.slice a n c, .int .i64 p, .int .i64 s] w fun e w' => e = .returned (.tuple #[.slice none 0 0, .bool false]) ∧ w = w' := by
  by_cases h1 : p < 0
  · exact cut_neg a n c p s w hn h1
  by_cases h2 : (n : Int) < p
  · exact cut_far a n c p s w hn (by omega) h2
  · exact cut_big a n c p s w hn (by omega) (by omega) (by rcases h with h | h | h <;> omega)
set_option maxHeartbeats 2000000 in
set_option maxRecDepth 100000 in
theorem cut_ok (b o n c p s : Nat) (w : World) (hc : n ≤ c) (hcm : c ≤ 9223372036854775807) (hn : n ≤ 140737488351232) (h1 : p + s ≤ n) (h2 : 1 ≤ s) :
    Calls Try.prog 33 #[.slice (some ⟨b, o, none⟩) n c, .int .i64 p, .int .i64 s] w fun e w' => e = .returned (.tuple #[.slice (some ⟨b, o + p, none⟩) s (c - p), .bool true]) ∧ w = w' := by
  have c0 : decide ((p : Int) < 0) = false := decide_eq_false (by omega)
  have c1 : decide ((n : Int) < p) = false := decide_eq_false (by omega)
  have c2 : decide ((n : Int) - p < s) = false := decide_eq_false (by omega)
  have x1 : (0 : Int) ≤ p := by omega
  have x2 : (p : Int) ≤ p + s := by omega
  have x3 : (p : Int) + s ≤ c := by omega
  have hpc : p < c := by omega
  go_enter Try.func33, Try.ntmps33
  go_wp2
  go_ret2
  exact ⟨ret_cut rfl (by omega) rfl rfl, rfl⟩

/-! ### Put -/
/-- x in so many bytes, the lowest first -/
def le (x : Nat) : Nat → List UInt8
  | 0 => []
  | k + 1 => UInt8.ofNat x :: le (x / 256) k
@[simp] theorem le_length (k : Nat) : ∀ x, (le x k).length = k := by
  induction k with
  | zero => intro x; rfl
  | succ k ih => intro x; simp [le, ih]
theorem le_get (k : Nat) : ∀ (x i : Nat) (h : i < (le x k).length), (le x k)[i] = UInt8.ofNat (x / 256 ^ i) := by
  induction k with
  | zero => intro x i h; simp [le] at h
  | succ k ih =>
    intro x i h
    cases i with
    | zero => simp [le]
    | succ i =>
      simp only [le, List.getElem_cons_succ]
      rw [ih, Nat.div_div_eq_div_mul, Nat.pow_succ, Nat.mul_comm]
/-- may x stand in so many bytes? -/
def Fits (x w : Int) : Prop := 1 ≤ w ∧ w ≤ 8 ∧ 0 ≤ x ∧ (w < 8 → x / 2 ^ (8 * w).toNat ≤ 0)

set_option maxHeartbeats 2000000 in
set_option maxRecDepth 100000 in
theorem put_low (a : Option Addr) (n c : Nat) (p wd x : Int) (w : World) (hx : x ≤ 9223372036854775807) (h : wd < 1) :
    Calls Try.prog 26 #[.slice a n c, .int .i64 p, .int .i64 wd, .int .i64 x] w fun e w' => e = .returned (.int .i64 1) ∧ w = w' := by
  have c0 : decide (wd < 1) = true := decide_eq_true (by omega)
  go_enter Try.func26, Try.ntmps26
  go_wp2
  go_ret
  exact ⟨rfl, rfl⟩

set_option maxHeartbeats 2000000 in
set_option maxRecDepth 100000 in
theorem put_high (a : Option Addr) (n c : Nat) (p wd x : Int) (w : World) (hx : x ≤ 9223372036854775807) (h : 8 < wd) :
    Calls Try.prog 26 #[.slice a n c, .int .i64 p, .int .i64 wd, .int .i64 x] w fun e w' => e = .returned (.int .i64 1) ∧ w = w' := by
  have c0 : decide (wd < 1) = false := decide_eq_false (by omega)
  have c1 : decide (8 < wd) = true := decide_eq_true (by omega)
  go_enter Try.func26, Try.ntmps26
  go_wp2
  go_ret
  exact ⟨rfl, rfl⟩

set_option maxHeartbeats 2000000 in
set_option maxRecDepth 100000 in
theorem put_neg (a : Option Addr) (n c : Nat) (p wd x : Int) (w : World) (hx : x ≤ 9223372036854775807) (h1 : 1 ≤ wd) (h2 : wd ≤ 8) (h : x < 0) :
    Calls Try.prog 26 #[.slice a n c, .int .i64 p, .int .i64 wd, .int .i64 x] w fun e w' => e = .returned (.int .i64 1) ∧ w = w' := by
  have c0 : decide (wd < 1) = false := decide_eq_false (by omega)
  have c1 : decide (8 < wd) = false := decide_eq_false (by omega)
  have c2 : decide (x < 0) = true := decide_eq_true (by omega)
  go_enter Try.func26, Try.ntmps26
  go_wp2
  go_ret
  exact ⟨rfl, rfl⟩

set_option maxHeartbeats 2000000 in
set_option maxRecDepth 100000 in
theorem put_big (a : Option Addr) (n c : Nat) (p wd x : Int) (w : World) (hx : x ≤ 9223372036854775807) (h1 : 1 ≤ wd) (h2 : wd < 8) (h3 : 0 ≤ x) (h : 0 < x / 2 ^ (8 * wd).toNat) :
    Calls Try.prog 26 #[.slice a n c, .int .i64 p, .int .i64 wd, .int .i64 x] w fun e w' => e = .returned (.int .i64 1) ∧ w = w' := by
  have c0 : decide (wd < 1) = false := decide_eq_false (by omega)
  have c1 : decide (8 < wd) = false := decide_eq_false (by omega)
  have c2 : decide (x < 0) = false := decide_eq_false (by omega)
  have c3 : decide (wd < 8) = true := decide_eq_true (by omega)
  have c4 : decide (0 < x / 2 ^ (8 * wd).toNat) = true := decide_eq_true h
  go_enter Try.func26, Try.ntmps26
  go_wp2
  go_ret
  exact ⟨rfl, rfl⟩

set_option maxHeartbeats 2000000 in
set_option maxRecDepth 100000 in
theorem put_room8 (a : Option Addr) (n c : Nat) (p x : Int) (w : World) (hn : n ≤ 140737488351232) (hx : x ≤ 9223372036854775807) (h3 : 0 ≤ x)  (hr : NoRoom n p 8) :
    Calls Try.prog 26 #[.slice a n c, .int .i64 p, .int .i64 8, .int .i64 x] w fun e w' => e = .returned (.int .i64 1) ∧ w = w' := by
  have c0 : decide ((8 : Int) < 1) = false := by decide
  have c1 : decide (x < 0) = false := decide_eq_false (by omega)
  have HR := Lib.hid hr
  clear hr
  go_enter Try.func26, Try.ntmps26
  go_wp2_with (go_at_call 33; (with_reducible refine (cut_no a n c p 8 _ hn HR.out).mono ?_); rintro e w1 ⟨rfl, rfl⟩)
  go_ret
  exact ⟨rfl, rfl⟩

set_option maxHeartbeats 2000000 in
set_option maxRecDepth 100000 in
theorem put_rooms (a : Option Addr) (n c : Nat) (p wd x : Int) (w : World) (hn : n ≤ 140737488351232) (hx : x ≤ 9223372036854775807) (h3 : 0 ≤ x) (h1 : 1 ≤ wd) (h2 : wd < 8) (hf : x / 2 ^ (8 * wd).toNat ≤ 0) (hr : NoRoom n p wd) :
    Calls Try.prog 26 #[.slice a n c, .int .i64 p, .int .i64 wd, .int .i64 x] w fun e w' => e = .returned (.int .i64 1) ∧ w = w' := by
  have c0 : decide (wd < 1) = false := decide_eq_false (by omega)
  have c1 : decide (8 < wd) = false := decide_eq_false (by omega)
  have c2 : decide (x < 0) = false := decide_eq_false (by omega)
  have c3 : decide (wd < 8) = true := decide_eq_true (by omega)
  have c4 : decide (0 < x / 2 ^ (8 * wd).toNat) = false := decide_eq_false (by omega)
  have HR := Lib.hid hr
  clear hr
  go_enter Try.func26, Try.ntmps26
  go_wp2_with (go_at_call 33; (with_reducible refine (cut_no a n c p wd _ hn HR.out).mono ?_); rintro e w1 ⟨rfl, rfl⟩)
  go_ret
  exact ⟨rfl, rfl⟩

theorem put_no (a : Option Addr) (n c : Nat) (p wd x : Int) (w : World) (hn : n ≤ 140737488351232) (hx : x ≤ 9223372036854775807) (h : ¬ Fits x wd ∨ NoRoom n p wd) :
    Calls Try.prog 26 #[.slice a n c, .int .i64 p, .int .i64 wd, .int .i64 x] w fun e w' => e = .returned (.int .i64 1) ∧ w = w' := by
  by_cases h1 : wd < 1
  · exact put_low a n c p wd x w hx h1
  by_cases h2 : 8 < wd
  · exact put_high a n c p wd x w hx h2
  by_cases h3 : x < 0
  · exact put_neg a n c p wd x w hx (by omega) (by omega) h3
  by_cases h4 : wd < 8
  · by_cases h5 : 0 < x / 2 ^ (8 * wd).toNat
    · exact put_big a n c p wd x w hx (by omega) h4 (by omega) h5
    · exact put_rooms a n c p wd x w hn hx (by omega) (by omega) h4 (by omega) (h.resolve_left fun h => h ⟨by omega, by omega, by omega, fun _ => by omega⟩)
  · obtain rfl : wd = 8 := by omega
    exact put_room8 a n c p x w hn hx (by omega) (h.resolve_left fun h => h ⟨by omega, by omega, by omega, fun h => by omega⟩)

/-- what a Put leaves: block g with the bytes laid in -/
def PutPost (g : Nat) (cs : Array Value) (t : TypeId) (o : Nat) (l : List UInt8) (w : World) (r : Int) (e : Ending) (w' : World) : Prop :=
  e = .returned (.int .i64 r) ∧ Bk w' g (lay cs o (l.map B)) t ∧ Fr (· = g) w w'
theorem ret_i {a b : Int} (h : a = b) : Ending.returned (.int .i64 a) = .returned (.int .i64 b) := by rw [h]

set_option maxHeartbeats 2000000 in
set_option maxRecDepth 100000 in
theorem put_ok8 (g o n c p wd x : Nat) (cs : Array Value) (t : TypeId) (w : World) (hb : Bk w g cs t) (hc : n ≤ c) (hcm : c ≤ 9223372036854775807) (hn : n ≤ 140737488351232) (hcs : o + n ≤ cs.size) (hx : x ≤ 9223372036854775807) (hr : p + wd ≤ n) (h1 : wd = 8) :
    Calls Try.prog 26 #[.slice (some ⟨g, o, none⟩) n c, .int .i64 p, .int .i64 wd, .int .i64 x] w (PutPost g cs t (o + p) (le x wd) w 0) := by
  have c0 : decide ((wd : Int) < 1) = false := decide_eq_false (by omega)
  have c1 : decide (8 < (wd : Int)) = false := decide_eq_false (by omega)
  have c2 : decide ((x : Int) < 0) = false := decide_eq_false (by omega)
  have c3 : decide ((wd : Int) < 8) = false := decide_eq_false (by omega)
  have h1a : 1 ≤ wd := by omega
  have h1b : wd ≤ 8 := by omega
  clear h1
  have HB := Lib.hid hb
  clear hb
  go_enter Try.func26, Try.ntmps26
  go_wp2_with (go_at_call 33; (with_reducible refine (cut_ok g o n c p wd _ hc hcm hn hr (by omega)).mono ?_); rintro e w1 ⟨rfl, rfl⟩)
  go_loopw [3, 44] (fun v u wr => ∃ k : Nat, k ≤ wd ∧ u = .int .i64 k ∧ v = .int .i64 ((x / 256 ^ k : Nat) : Int) ∧ Bk wr g (lay cs (o + p) (((le x wd).map B).take k)) t ∧ Fr (· = g) w wr) (fun _ u _ => wd - (intOf u).toNat)
  case atStart => exact ⟨0, by omega, rfl, by simp, HB.out, Fr.refl _ _⟩
  case round =>
    obtain ⟨k, hk, rfl, rfl, hbk, hfr⟩ := hrel
    have hlt0 : o + p + k < cs.size ∨ k = wd := by omega
    have HBK := Lib.hid hbk
    have HFR := Lib.hid hfr
    have hxk : x / 256 ^ k ≤ x := Nat.div_le_self _ _
    have HX : Hid (x / 256 ^ k / 256 = x / 256 ^ (k + 1)) := Lib.hid (by rw [Nat.div_div_eq_div_mul, Nat.pow_succ])
    have HB2 : Hid (k < wd → ∀ (h : k < (le x wd).length), B ((le x wd)[k]) = .int .u8 ((x / 256 ^ k % 256 : Nat) : Int)) := Lib.hid (fun _ h => by rw [le_get, B_ofNat])
    clear hbk hfr
    generalize x / 256 ^ k = y at *
    by_cases hlt : k < wd
    · obtain ⟨v0, hv0⟩ : ∃ v0, wr.cell? ⟨g, o + p + k, none⟩ = some v0 := ⟨_, (HBK.out.cell _).trans (Array.getElem?_eq_getElem (by simp; omega))⟩
      have hfz := HBK.out.free (o + p + k)
      clear hlt0
      go_wp2
      have hv : ((le x wd).map B)[k]'(by simp; omega) = .int .u8 ((y : Int) % 256) := by
        rw [List.getElem_map, HB2.out hlt (by simp; omega)]; rfl
      refine ⟨⟨k + 1, by omega, by go_num, congrArg (Value.int .i64) (by rw [← HX.out]; omega), ?_, HFR.out.set _ _ (.inr rfl)⟩, by simp [intOf]; omega⟩
      rw [lay_take (by simp; omega), hv]
      exact HBK.out.set _ _
    · obtain rfl : k = wd := by omega
      go_wp2
      go_ret
      refine ⟨rfl, ?_, HFR.out⟩
      have := HBK.out
      rwa [List.take_of_length_le (by simp)] at this

set_option maxHeartbeats 2000000 in
set_option maxRecDepth 100000 in
theorem put_oks (g o n c p wd x : Nat) (cs : Array Value) (t : TypeId) (w : World) (hb : Bk w g cs t) (hc : n ≤ c) (hcm : c ≤ 9223372036854775807) (hn : n ≤ 140737488351232) (hcs : o + n ≤ cs.size) (hx : x ≤ 9223372036854775807) (hr : p + wd ≤ n) (h1 : 1 ≤ wd) (h2 : wd < 8) (hf : (x : Int) / 2 ^ (8 * wd) ≤ 0) :
    Calls Try.prog 26 #[.slice (some ⟨g, o, none⟩) n c, .int .i64 p, .int .i64 wd, .int .i64 x] w (PutPost g cs t (o + p) (le x wd) w 0) := by
  have c0 : decide ((wd : Int) < 1) = false := decide_eq_false (by omega)
  have c1 : decide (8 < (wd : Int)) = false := decide_eq_false (by omega)
  have c2 : decide ((x : Int) < 0) = false := decide_eq_false (by omega)
  have c3 : decide ((wd : Int) < 8) = true := decide_eq_true (by omega)
  have c4 : decide (0 < (x : Int) / 2 ^ (8 * wd)) = false := decide_eq_false (by omega)
  have HB := Lib.hid hb
  clear hb
  go_enter Try.func26, Try.ntmps26
  go_wp2_with (go_at_call 33; (with_reducible refine (cut_ok g o n c p wd _ hc hcm hn hr (by omega)).mono ?_); rintro e w1 ⟨rfl, rfl⟩)
  go_loopw [3, 44] (fun v u wr => ∃ k : Nat, k ≤ wd ∧ u = .int .i64 k ∧ v = .int .i64 ((x / 256 ^ k : Nat) : Int) ∧ Bk wr g (lay cs (o + p) (((le x wd).map B).take k)) t ∧ Fr (· = g) w wr) (fun _ u _ => wd - (intOf u).toNat)
  case atStart => exact ⟨0, by omega, rfl, by simp, HB.out, Fr.refl _ _⟩
  case round =>
    obtain ⟨k, hk, rfl, rfl, hbk, hfr⟩ := hrel
    have hlt0 : o + p + k < cs.size ∨ k = wd := by omega
    have HBK := Lib.hid hbk
    have HFR := Lib.hid hfr
    have hxk : x / 256 ^ k ≤ x := Nat.div_le_self _ _
    have HX : Hid (x / 256 ^ k / 256 = x / 256 ^ (k + 1)) := Lib.hid (by rw [Nat.div_div_eq_div_mul, Nat.pow_succ])
    have HB2 : Hid (k < wd → ∀ (h : k < (le x wd).length), B ((le x wd)[k]) = .int .u8 ((x / 256 ^ k % 256 : Nat) : Int)) := Lib.hid (fun _ h => by rw [le_get, B_ofNat])
    clear hbk hfr
    generalize x / 256 ^ k = y at *
    by_cases hlt : k < wd
    · obtain ⟨v0, hv0⟩ : ∃ v0, wr.cell? ⟨g, o + p + k, none⟩ = some v0 := ⟨_, (HBK.out.cell _).trans (Array.getElem?_eq_getElem (by simp; omega))⟩
      have hfz := HBK.out.free (o + p + k)
      clear hlt0
      go_wp2
      have hv : ((le x wd).map B)[k]'(by simp; omega) = .int .u8 ((y : Int) % 256) := by
        rw [List.getElem_map, HB2.out hlt (by simp; omega)]; rfl
      refine ⟨⟨k + 1, by omega, by go_num, congrArg (Value.int .i64) (by rw [← HX.out]; omega), ?_, HFR.out.set _ _ (.inr rfl)⟩, by simp [intOf]; omega⟩
      rw [lay_take (by simp; omega), hv]
      exact HBK.out.set _ _
    · obtain rfl : k = wd := by omega
      go_wp2
      go_ret
      refine ⟨rfl, ?_, HFR.out⟩
      have := HBK.out
      rwa [List.take_of_length_le (by simp)] at this

/-- PUT: a number that fits is laid at a place that is there. -/
theorem put_ok (g o n c p wd x : Nat) (cs : Array Value) (t : TypeId) (w : World) (hb : Bk w g cs t) (hc : n ≤ c) (hcm : c ≤ 9223372036854775807) (hn : n ≤ 140737488351232) (hcs : o + n ≤ cs.size) (hx : x ≤ 9223372036854775807) (hr : p + wd ≤ n) (hf : Fits x wd) :
    Calls Try.prog 26 #[.slice (some ⟨g, o, none⟩) n c, .int .i64 p, .int .i64 wd, .int .i64 x] w (PutPost g cs t (o + p) (le x wd) w 0) := by
  obtain ⟨h1, h2, h3, h4⟩ := hf
  by_cases h8 : wd = 8
  · exact put_ok8 g o n c p wd x cs t w hb hc hcm hn hcs hx hr h8
  · have h5 := h4 (by omega)
    rw [show (8 * (wd : Int)).toNat = 8 * wd by omega] at h5
    exact put_oks g o n c p wd x cs t w hb hc hcm hn hcs hx hr (by omega) (by omega) h5

end Go.Proofs.Ytfjkbabeceaelaa.WordPut
