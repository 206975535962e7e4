/- Numbers in fixed room, taken: the walks of word.Take and word.Zero. -/
import Derived.Test.YtfjkbabeceaelaaWordPut
import Derived.Laws.BitsLemmas
set_option linter.unusedVariables false
set_option linter.unusedSimpArgs false
namespace Go.Proofs.Ytfjkbabeceaelaa.WordTake
open Go Go.RowKit Go.Proofs.Ytfjkbabeceaelaa.K Go.Proofs.Ytfjkbabeceaelaa.WordPut

theorem ret_ii {a b a' b' : Int} (h1 : a = a') (h2 : b = b') : Ending.returned (.tuple #[.int .i64 a, .int .i64 b]) = .returned (.tuple #[.int .i64 a', .int .i64 b']) := by rw [h1, h2]
/-- the number of bytes, the lowest first -/
def num : List UInt8 → Nat
  | [] => 0
  | v :: r => v.toNat + 256 * num r
theorem num_snoc (l : List UInt8) (v : UInt8) : num (l ++ [v]) = num l + v.toNat * 256 ^ l.length := by
  induction l with
  | nil => simp [num]
  | cons u r ih => simp only [List.cons_append, num, ih, List.length_cons, Nat.pow_succ, Nat.mul_add]; rw [Nat.add_assoc, Nat.mul_left_comm, Nat.mul_comm 256 (256 ^ r.length)]
theorem num_lt (l : List UInt8) : num l < 256 ^ l.length := by
  induction l with
  | nil => simp [num]
  | cons u r ih => simp only [num, List.length_cons, Nat.pow_succ]; have := u.toNat_lt; omega
theorem num_take (l : List UInt8) (k : Nat) (h : k < l.length) : num (l.take (k + 1)) = num (l.take k) + l[k].toNat * 256 ^ k := by
  rw [List.take_succ_eq_append_getElem h, num_snoc, List.length_take, Nat.min_eq_left (by omega)]

set_option maxHeartbeats 2000000 in
set_option maxRecDepth 100000 in
theorem take_low (a : Option Addr) (n c : Nat) (p wd : Int) (w : World) (h : wd < 1) :
    Calls Try.prog 20 #[.slice a n c, .int .i64 p, .int .i64 wd] w fun e w' => e = .returned (.tuple #[.int .i64 0, .int .i64 1]) ∧ w = w' := by
  have c0 : decide (wd < 1) = true := decide_eq_true (by omega)
  go_enter Try.func20, Try.ntmps20
  go_wp2
  go_ret2
  exact ⟨rfl, rfl⟩

set_option maxHeartbeats 2000000 in
set_option maxRecDepth 100000 in
theorem take_high (a : Option Addr) (n c : Nat) (p wd : Int) (w : World) (h : 8 < wd) :
    Calls Try.prog 20 #[.slice a n c, .int .i64 p, .int .i64 wd] w fun e w' => e = .returned (.tuple #[.int .i64 0, .int .i64 1]) ∧ w = w' := by
  have c0 : decide (wd < 1) = false := decide_eq_false (by omega)
  have c1 : decide (8 < wd) = true := decide_eq_true (by omega)
  go_enter Try.func20, Try.ntmps20
  go_wp2
  go_ret2
  exact ⟨rfl, rfl⟩

set_option maxHeartbeats 2000000 in
set_option maxRecDepth 100000 in
theorem take_room (a : Option Addr) (n c : Nat) (p wd : Int) (w : World) (hn : n ≤ 140737488351232) (h1 : 1 ≤ wd) (h2 : wd ≤ 8) (hr : NoRoom n p wd) :
    Calls Try.prog 20 #[.slice a n c, .int .i64 p, .int .i64 wd] w fun e w' => e = .returned (.tuple #[.int .i64 0, .int .i64 1]) ∧ w = w' := by
  have c0 : decide (wd < 1) = false := decide_eq_false (by omega)
  have c1 : decide (8 < wd) = false := decide_eq_false (by omega)
  have HR := Lib.hid hr
  clear hr
  go_enter Try.func20, Try.ntmps20
  go_wp2_with (go_at_call 33; (with_reducible refine (cut_no a n c p wd _ hn HR.out).mono ?_); rintro e w1 ⟨rfl, rfl⟩)
  go_ret2
  exact ⟨rfl, rfl⟩
theorem take_no (a : Option Addr) (n c : Nat) (p wd : Int) (w : World) (hn : n ≤ 140737488351232) (h : wd < 1 ∨ 8 < wd ∨ NoRoom n p wd) :
    Calls Try.prog 20 #[.slice a n c, .int .i64 p, .int .i64 wd] w fun e w' => e = .returned (.tuple #[.int .i64 0, .int .i64 1]) ∧ w = w' := by
  by_cases h1 : wd < 1
  · exact take_low a n c p wd w h1
  by_cases h2 : 8 < wd
  · exact take_high a n c p wd w h2
  · exact take_room a n c p wd w hn (by omega) (by omega) (by rcases h with h | h | h; omega; omega; exact h)

set_option maxHeartbeats 2000000 in
set_option maxRecDepth 100000 in
theorem take_ok0 (b o n c p wd : Nat) (m : List UInt8) (w : World) (hlen : m.length = wd) (hrd2 : Rd w (some ⟨b, o + p, none⟩) m) (hc : n ≤ c) (hcm : c ≤ 9223372036854775807) (hn : n ≤ 140737488351232) (hr : p + wd ≤ n) (h1 : 1 ≤ wd) (h2 : wd ≤ 8) (hsm : num m < 2 ^ 63) :
    Calls Try.prog 20 #[.slice (some ⟨b, o, none⟩) n c, .int .i64 p, .int .i64 wd] w fun e w' => e = .returned (.tuple #[.int .i64 (num m : Int), .int .i64 0]) ∧ w = w' := by
  have c0 : decide ((wd : Int) < 1) = false := decide_eq_false (by omega)
  have c1 : decide (8 < (wd : Int)) = false := decide_eq_false (by omega)
  have h64 : num m < 18446744073709551616 := by
    have := num_lt m
    rw [hlen] at this
    have h8 : (256 : Nat) ^ wd ≤ 256 ^ 8 := Nat.pow_le_pow_right (by decide) h2
    have : (256 : Nat) ^ 8 = 18446744073709551616 := by decide
    omega
  have HM := Lib.hid hlen
  have HR := Lib.hid hrd2
  clear hlen hrd2
  go_enter Try.func20, Try.ntmps20
  go_wp2_with (go_at_call 33; (with_reducible refine (cut_ok b o n c p wd _ hc hcm hn hr (by omega)).mono ?_); rintro e w1 ⟨rfl, rfl⟩)
  go_loop [10, 30] (fun v u => ∃ k : Nat, k ≤ wd ∧ u = .int .i64 k ∧ v = .int .u64 ((num (m.take k) : Nat) : Int)) (fun _ u => wd - (intOf u).toNat)
  case atStart => exact ⟨0, by omega, rfl, by simp [num]⟩
  case round =>
    obtain ⟨k, hk, rfl, rfl⟩ := hrel
    by_cases hlt : k < wd
    · obtain ⟨a, ea, hca⟩ := HR.out k (by rw [HM.out]; exact hlt)
      obtain rfl := Option.some.inj ea
      rw [add_form] at hca
      have hnt := num_take m k (by rw [HM.out]; exact hlt)
      have hnl : num (m.take k) < 256 ^ k := by have := num_lt (m.take k); rwa [List.length_take, Nat.min_eq_left (by rw [HM.out]; omega)] at this
      have HN := Lib.hid hnt
      have HL := Lib.hid hnl
      clear hnt hnl
      generalize m[k]'(by rw [HM.out]; exact hlt) = bv at *
      have hb0 : (0 : Int) ≤ (bv.toNat : Int) := by omega
      have hb1 : (bv.toNat : Int) < 256 := by have := bv.toNat_lt; omega
      simp only [B] at hca
      clear ea
      go_wp2
      refine ⟨⟨k + 1, by omega, by go_num, congrArg (Value.int .u64) ?_⟩, by simp [intOf]; omega⟩
      rw [or_high _ _ _ HL.out bv.toNat_lt (by omega), HN.out]
    · obtain rfl : k = wd := by omega
      have hm : m.take k = m := List.take_of_length_le (by rw [HM.out]; omega)
      rw [hm]
      clear hm
      generalize hz : num m = z at *
      have HZ := Lib.hid hz
      clear hz
      have c9 : decide (0 < (z : Int) / 9223372036854775808) = false := decide_eq_false (by omega)
      go_wp2
      go_ret2
      exact ⟨by first | rfl | (rw [HZ.out]; rfl), rfl⟩
theorem take_ok (b o n c p wd : Nat) (l : List UInt8) (w : World) (hl : l.length = n) (hrd : Rd w (some ⟨b, o, none⟩) l) (hc : n ≤ c) (hcm : c ≤ 9223372036854775807) (hn : n ≤ 140737488351232) (hr : p + wd ≤ n) (h1 : 1 ≤ wd) (h2 : wd ≤ 8) (hsm : num ((l.drop p).take wd) < 2 ^ 63) :
    Calls Try.prog 20 #[.slice (some ⟨b, o, none⟩) n c, .int .i64 p, .int .i64 wd] w fun e w' => e = .returned (.tuple #[.int .i64 (num ((l.drop p).take wd) : Int), .int .i64 0]) ∧ w = w' :=
  take_ok0 b o n c p wd _ w (by simp; omega) (hrd.sub p wd) hc hcm hn hr h1 h2 hsm

set_option maxHeartbeats 2000000 in
set_option maxRecDepth 100000 in
theorem take_form0 (b o n c p wd : Nat) (m : List UInt8) (w : World) (hlen : m.length = wd) (hrd2 : Rd w (some ⟨b, o + p, none⟩) m) (hc : n ≤ c) (hcm : c ≤ 9223372036854775807) (hn : n ≤ 140737488351232) (hr : p + wd ≤ n) (h1 : 1 ≤ wd) (h2 : wd ≤ 8) (hsm : 2 ^ 63 ≤ num m) :
    Calls Try.prog 20 #[.slice (some ⟨b, o, none⟩) n c, .int .i64 p, .int .i64 wd] w fun e w' => e = .returned (.tuple #[.int .i64 0, .int .i64 15]) ∧ w = w' := by
  have c0 : decide ((wd : Int) < 1) = false := decide_eq_false (by omega)
  have c1 : decide (8 < (wd : Int)) = false := decide_eq_false (by omega)
  have h64 : num m < 18446744073709551616 := by
    have := num_lt m
    rw [hlen] at this
    have h8 : (256 : Nat) ^ wd ≤ 256 ^ 8 := Nat.pow_le_pow_right (by decide) h2
    have : (256 : Nat) ^ 8 = 18446744073709551616 := by decide
    omega
  have HM := Lib.hid hlen
  have HR := Lib.hid hrd2
  clear hlen hrd2
  go_enter Try.func20, Try.ntmps20
  go_wp2_with (go_at_call 33; (with_reducible refine (cut_ok b o n c p wd _ hc hcm hn hr (by omega)).mono ?_); rintro e w1 ⟨rfl, rfl⟩)
  go_loop [10, 30] (fun v u => ∃ k : Nat, k ≤ wd ∧ u = .int .i64 k ∧ v = .int .u64 ((num (m.take k) : Nat) : Int)) (fun _ u => wd - (intOf u).toNat)
  case atStart => exact ⟨0, by omega, rfl, by simp [num]⟩
  case round =>
    obtain ⟨k, hk, rfl, rfl⟩ := hrel
    by_cases hlt : k < wd
    · obtain ⟨a, ea, hca⟩ := HR.out k (by rw [HM.out]; exact hlt)
      obtain rfl := Option.some.inj ea
      rw [add_form] at hca
      have hnt := num_take m k (by rw [HM.out]; exact hlt)
      have hnl : num (m.take k) < 256 ^ k := by have := num_lt (m.take k); rwa [List.length_take, Nat.min_eq_left (by rw [HM.out]; omega)] at this
      have HN := Lib.hid hnt
      have HL := Lib.hid hnl
      clear hnt hnl
      generalize m[k]'(by rw [HM.out]; exact hlt) = bv at *
      have hb0 : (0 : Int) ≤ (bv.toNat : Int) := by omega
      have hb1 : (bv.toNat : Int) < 256 := by have := bv.toNat_lt; omega
      simp only [B] at hca
      clear ea
      go_wp2
      refine ⟨⟨k + 1, by omega, by go_num, congrArg (Value.int .u64) ?_⟩, by simp [intOf]; omega⟩
      rw [or_high _ _ _ HL.out bv.toNat_lt (by omega), HN.out]
    · obtain rfl : k = wd := by omega
      have hm : m.take k = m := List.take_of_length_le (by rw [HM.out]; omega)
      rw [hm]
      clear hm
      generalize hz : num m = z at *
      have HZ := Lib.hid hz
      clear hz
      have c9 : decide (0 < (z : Int) / 9223372036854775808) = true := decide_eq_true (by omega)
      go_wp2
      go_ret2
      exact ⟨by first | rfl | (rw [HZ.out]; rfl), rfl⟩
theorem take_form (b o n c p wd : Nat) (l : List UInt8) (w : World) (hl : l.length = n) (hrd : Rd w (some ⟨b, o, none⟩) l) (hc : n ≤ c) (hcm : c ≤ 9223372036854775807) (hn : n ≤ 140737488351232) (hr : p + wd ≤ n) (h1 : 1 ≤ wd) (h2 : wd ≤ 8) (hsm : 2 ^ 63 ≤ num ((l.drop p).take wd)) :
    Calls Try.prog 20 #[.slice (some ⟨b, o, none⟩) n c, .int .i64 p, .int .i64 wd] w fun e w' => e = .returned (.tuple #[.int .i64 0, .int .i64 15]) ∧ w = w' :=
  take_form0 b o n c p wd _ w (by simp; omega) (hrd.sub p wd) hc hcm hn hr h1 h2 hsm

/-! ### Zero -/
/-- are all bytes 0? -/
def allZ (l : List UInt8) : Bool := l.all (· == 0)
theorem or_zero (a b : Nat) : (a ||| b = 0) ↔ a = 0 ∧ b = 0 := by
  constructor
  · intro h
    have h1 : a ≤ a ||| b := Nat.left_le_or
    have h2 : b ≤ a ||| b := Nat.right_le_or
    omega
  · rintro ⟨rfl, rfl⟩; rfl
theorem zero_empty (a : Option Addr) (c : Nat) (w : World) :
    Calls Try.prog 18 #[.slice a 0 c] w fun e w' => e = .returned (.bool true) ∧ w = w' := by
  go_enter Try.func18, Try.ntmps18
  go_wp2
  refine wp_loop_rounds 1 ?_
  rw [rounds_succ]
  go_wp2
  go_ret
  exact ⟨rfl, rfl⟩
set_option maxHeartbeats 2000000 in
set_option maxRecDepth 100000 in
theorem zero_some (b o n c : Nat) (l : List UInt8) (w : World) (hl : l.length = n) (hrd : Rd w (some ⟨b, o, none⟩) l) (hc : n ≤ c) (hcm : c ≤ 9223372036854775807) (hn : n ≤ 140737488351232) :
    Calls Try.prog 18 #[.slice (some ⟨b, o, none⟩) n c] w fun e w' => e = .returned (.bool (allZ l)) ∧ w = w' := by
  have HM := Lib.hid hl
  have HR := Lib.hid hrd
  clear hl hrd
  go_enter Try.func18, Try.ntmps18
  go_wp2
  go_loop [3, 8] (fun v u => ∃ k z : Nat, k ≤ n ∧ u = .int .i64 k ∧ v = .int .u8 (z : Int) ∧ z < 256 ∧ (z = 0 ↔ allZ (l.take k) = true)) (fun _ u => n - (intOf u).toNat)
  case atStart => exact ⟨0, 0, by omega, rfl, rfl, by omega, by simp [allZ]⟩
  case round =>
    obtain ⟨k, z, hk, rfl, rfl, hz, hiff⟩ := hrel
    have HI := Lib.hid hiff
    clear hiff
    by_cases hlt : k < n
    · obtain ⟨a, ea, hca⟩ := HR.out k (by rw [HM.out]; exact hlt)
      obtain rfl := Option.some.inj ea
      rw [add_form] at hca
      have hnt : allZ (l.take (k + 1)) = (allZ (l.take k) && (l[k]'(by rw [HM.out]; exact hlt) == 0)) := by
        rw [List.take_succ_eq_append_getElem (by rw [HM.out]; exact hlt)]; unfold allZ; rw [List.all_append]; simp only [List.all_cons, List.all_nil, Bool.and_true]
      have HN := Lib.hid hnt
      clear hnt
      generalize l[k]'(by rw [HM.out]; exact hlt) = bv at *
      have hb0 : (0 : Int) ≤ (bv.toNat : Int) := by omega
      have hb1 : (bv.toNat : Int) < 256 := by have := bv.toNat_lt; omega
      simp only [B] at hca
      clear ea
      go_wp2
      refine ⟨⟨k + 1, z ||| bv.toNat, by omega, by go_num, congrArg (Value.int .u8) (or_u8 _ _ hz bv.toNat_lt), ?_, ?_⟩, by simp [intOf]; omega⟩
      · exact Nat.or_lt_two_pow (n := 8) hz bv.toNat_lt
      · rw [or_zero, HN.out, HI.out, Bool.and_eq_true, beq_iff_eq]
        constructor
        · rintro ⟨h1, h2⟩; exact ⟨h1, UInt8.toNat_inj.mp h2⟩
        · rintro ⟨h1, h2⟩; exact ⟨h1, by rw [h2]; rfl⟩
    · obtain rfl : k = n := by omega
      have hm : l.take k = l := List.take_of_length_le (by rw [HM.out]; omega)
      have hfin : decide ((z : Int) = 0) = allZ l := by
        have := HI.out
        rw [hm] at this
        rw [Bool.eq_iff_iff, decide_eq_true_eq, ← this]; omega
      have HF := Lib.hid hfin
      clear hm hfin
      go_wp2
      go_ret
      exact ⟨by rw [← HF.out]; first | rfl | (congr 1; simp), rfl⟩
theorem zero_calls (A0 : Option Addr) (n c : Nat) (l : List UInt8) (w : World) (hl : l.length = n) (hrd : Rd w A0 l) (hc : n ≤ c) (hcm : c ≤ 9223372036854775807) (hn : n ≤ 140737488351232) :
    Calls Try.prog 18 #[.slice A0 n c] w fun e w' => e = .returned (.bool (allZ l)) ∧ w = w' := by
  by_cases h0 : n = 0
  · subst h0
    have : l = [] := List.eq_nil_of_length_eq_zero hl
    subst this
    exact zero_empty A0 c w
  · obtain ⟨b, o, rfl, -, -⟩ := hrd.form (by omega)
    exact zero_some b o n c l w hl hrd hc hcm hn

end Go.Proofs.Ytfjkbabeceaelaa.WordTake
