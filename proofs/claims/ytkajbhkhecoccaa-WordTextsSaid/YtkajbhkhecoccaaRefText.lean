/- The reference's texts in fixed room: the walks of lazaretref02.TakeText and PutText. -/
import Derived.Test.YtkajbhkhecoccaaWordTextPut
set_option linter.unusedVariables false
set_option linter.unusedSimpArgs false
namespace Go.Proofs.Ytkajbhkhecoccaa.RefText
open Go Go.RowKit Go.Proofs.Ytkajbhkhecoccaa.K Go.Proofs.Ytkajbhkhecoccaa.WordPut Go.Proofs.Ytkajbhkhecoccaa.WordTake Go.Proofs.Ytkajbhkhecoccaa.RefCopy Go.Proofs.Ytkajbhkhecoccaa.WordText Go.Proofs.Ytkajbhkhecoccaa.WordTextPut Go.Proofs.Ytkajbhkhecoccaa.RefWord

theorem rd_cast {w : World} {b x y : Nat} {l : List UInt8} (h : Rd w (some ⟨b, x, none⟩) l) (e : x = y) : Rd w (some ⟨b, y, none⟩) l := e ▸ h

set_option maxHeartbeats 2000000 in
set_option maxRecDepth 100000 in
theorem rtt_low (a : Option Addr) (n c : Nat) (p rm : Int) (w : World) (hn : n ≤ 140737488351232) (h : rm < 1) :
    Calls Try.prog 35 #[.slice a n c, .int .i64 p, .int .i64 rm] w fun e w' => e = .returned (.tuple #[.string ⟨#[]⟩, .int .i64 1]) ∧ w = w' := by
  have c0 : decide (rm < 1) = true := decide_eq_true (by omega)
  go_enter Try.func35, Try.ntmps35
  go_wp2_with (fail)
  go_ret2
  exact ⟨rfl, rfl⟩

set_option maxHeartbeats 2000000 in
set_option maxRecDepth 100000 in
theorem rtt_high (a : Option Addr) (n c : Nat) (p rm : Int) (w : World) (hn : n ≤ 140737488351232) (h : 256 < rm) :
    Calls Try.prog 35 #[.slice a n c, .int .i64 p, .int .i64 rm] w fun e w' => e = .returned (.tuple #[.string ⟨#[]⟩, .int .i64 1]) ∧ w = w' := by
  have c0 : decide (rm < 1) = false := decide_eq_false (by omega)
  have c1 : decide (256 < rm) = true := decide_eq_true (by omega)
  go_enter Try.func35, Try.ntmps35
  go_wp2_with (fail)
  go_ret2
  exact ⟨rfl, rfl⟩

set_option maxHeartbeats 2000000 in
set_option maxRecDepth 100000 in
theorem rtt_room (a : Option Addr) (n c : Nat) (p rm : Int) (w : World) (hn : n ≤ 140737488351232) (h1 : 1 ≤ rm) (h2 : rm ≤ 256) (hr : NoRoom n p rm) :
    Calls Try.prog 35 #[.slice a n c, .int .i64 p, .int .i64 rm] w fun e w' => e = .returned (.tuple #[.string ⟨#[]⟩, .int .i64 1]) ∧ w = w' := by
  have c0 : decide (rm < 1) = false := decide_eq_false (by omega)
  have c1 : decide (256 < rm) = false := decide_eq_false (by omega)
  have HR := Lib.hid hr
  clear hr
  go_enter Try.func35, Try.ntmps35
  go_wp2_with ((go_at_call 39; (with_reducible refine (right_no a n c p rm _ hn HR.out).mono ?_); rintro e w1 ⟨rfl, rfl⟩))
  go_ret2
  exact ⟨rfl, rfl⟩

set_option maxHeartbeats 2000000 in
set_option maxRecDepth 100000 in
theorem rpt_low (a : Option Addr) (n c : Nat) (p rm : Int) (s : ByteArray) (w : World) (hn : n ≤ 140737488351232) (hs : s.size ≤ 9223372036854775807) (h : rm < 1) :
    Calls Try.prog 37 #[.slice a n c, .int .i64 p, .int .i64 rm, .string s] w fun e w' => e = .returned (.int .i64 1) ∧ w = w' := by
  have c0 : decide (rm < 1) = true := decide_eq_true (by omega)
  go_enter Try.func37, Try.ntmps37
  go_wp2_with (fail)
  go_ret
  exact ⟨rfl, rfl⟩

set_option maxHeartbeats 2000000 in
set_option maxRecDepth 100000 in
theorem rpt_high (a : Option Addr) (n c : Nat) (p rm : Int) (s : ByteArray) (w : World) (hn : n ≤ 140737488351232) (hs : s.size ≤ 9223372036854775807) (h : 256 < rm) :
    Calls Try.prog 37 #[.slice a n c, .int .i64 p, .int .i64 rm, .string s] w fun e w' => e = .returned (.int .i64 1) ∧ w = w' := by
  have c0 : decide (rm < 1) = false := decide_eq_false (by omega)
  have c1 : decide (256 < rm) = true := decide_eq_true (by omega)
  go_enter Try.func37, Try.ntmps37
  go_wp2_with (fail)
  go_ret
  exact ⟨rfl, rfl⟩

set_option maxHeartbeats 2000000 in
set_option maxRecDepth 100000 in
theorem rpt_room (a : Option Addr) (n c : Nat) (p rm : Int) (s : ByteArray) (w : World) (hn : n ≤ 140737488351232) (hs : s.size ≤ 9223372036854775807) (h1 : 1 ≤ rm) (h2 : rm ≤ 256) (hr : NoRoom n p rm) :
    Calls Try.prog 37 #[.slice a n c, .int .i64 p, .int .i64 rm, .string s] w fun e w' => e = .returned (.int .i64 1) ∧ w = w' := by
  have c0 : decide (rm < 1) = false := decide_eq_false (by omega)
  have c1 : decide (256 < rm) = false := decide_eq_false (by omega)
  have HR := Lib.hid hr
  clear hr
  go_enter Try.func37, Try.ntmps37
  go_wp2_with ((go_at_call 39; (with_reducible refine (right_no a n c p rm _ hn HR.out).mono ?_); rintro e w1 ⟨rfl, rfl⟩))
  go_ret
  exact ⟨rfl, rfl⟩

set_option maxHeartbeats 2000000 in
set_option maxRecDepth 100000 in
theorem rpt_big (a : Option Addr) (n c : Nat) (p rm : Int) (s : ByteArray) (w : World) (hn : n ≤ 140737488351232) (hs : s.size ≤ 9223372036854775807) (h1 : 1 ≤ rm) (h2 : rm ≤ 256) (hr : ¬ NoRoom n p rm) (h : rm ≤ s.size) :
    Calls Try.prog 37 #[.slice a n c, .int .i64 p, .int .i64 rm, .string s] w fun e w' => e = .returned (.int .i64 1) ∧ w = w' := by
  have c0 : decide (rm < 1) = false := decide_eq_false (by omega)
  have c1 : decide (256 < rm) = false := decide_eq_false (by omega)
  have c2 : decide (rm - 1 < s.size) = true := decide_eq_true (by omega)
  have HR := Lib.hid hr
  clear hr
  go_enter Try.func37, Try.ntmps37
  go_wp2_with ((go_at_call 39; (with_reducible refine (right_ok a n c p rm _ hn HR.out).mono ?_); rintro e w1 ⟨rfl, rfl⟩))
  go_ret
  exact ⟨rfl, rfl⟩

theorem rtt_no (a : Option Addr) (n c : Nat) (p rm : Int) (w : World) (hn : n ≤ 140737488351232) (h : rm < 1 ∨ 256 < rm ∨ NoRoom n p rm) :
    Calls Try.prog 35 #[.slice a n c, .int .i64 p, .int .i64 rm] w fun e w' => e = .returned (.tuple #[.string ⟨#[]⟩, .int .i64 1]) ∧ w = w' := by
  by_cases h1 : rm < 1
  · exact rtt_low a n c p rm w hn h1
  by_cases h2 : 256 < rm
  · exact rtt_high a n c p rm w hn h2
  · exact rtt_room a n c p rm w hn (by omega) (by omega) (by rcases h with h | h | h; omega; omega; exact h)
theorem rpt_no (a : Option Addr) (n c : Nat) (p rm : Int) (s : ByteArray) (w : World) (hn : n ≤ 140737488351232) (hs : s.size ≤ 9223372036854775807) (h : rm < 1 ∨ 256 < rm ∨ rm ≤ s.size ∨ NoRoom n p rm) :
    Calls Try.prog 37 #[.slice a n c, .int .i64 p, .int .i64 rm, .string s] w fun e w' => e = .returned (.int .i64 1) ∧ w = w' := by
  by_cases h1 : rm < 1
  · exact rpt_low a n c p rm s w hn hs h1
  by_cases h2 : 256 < rm
  · exact rpt_high a n c p rm s w hn hs h2
  by_cases hr : NoRoom n p rm
  · exact rpt_room a n c p rm s w hn hs (by omega) (by omega) hr
  · exact rpt_big a n c p rm s w hn hs (by omega) (by omega) hr (by rcases h with h | h | h | h; omega; omega; exact h; exact absurd h hr)

set_option maxHeartbeats 2000000 in
set_option maxRecDepth 100000 in
theorem rtt_long (b o n c p rm k : Nat) (m : List UInt8) (w : World) (hlen : m.length = rm) (hrd : Rd w (some ⟨b, o + p, none⟩) m) (hc : n ≤ c) (hcm : c ≤ 9223372036854775807) (hn : n ≤ 140737488351232) (hr : p + rm ≤ n) (h1 : 1 ≤ rm) (h2 : rm ≤ 256) (hke : k = (m.getD 0 0).toNat) (hl : rm ≤ k) :
    Calls Try.prog 35 #[.slice (some ⟨b, o, none⟩) n c, .int .i64 p, .int .i64 rm] w fun e w' => e = .returned (.tuple #[.string ⟨#[]⟩, .int .i64 15]) ∧ w = w' := by
  have c0 : decide ((rm : Int) < 1) = false := decide_eq_false (by omega)
  have c1 : decide (256 < (rm : Int)) = false := decide_eq_false (by omega)
  have HR : Hid (¬ NoRoom n p rm) := Lib.hid (by unfold NoRoom; omega)
  obtain ⟨v, hv⟩ : ∃ v, m[0]? = some v := ⟨_, List.getElem?_eq_getElem (by omega)⟩
  have hk : k = v.toNat := by rw [hke, List.getD, hv]; rfl
  have hk256 : k < 256 := by have := v.toNat_lt; omega
  have hcell : w.cell? ⟨b, o + p, none⟩ = some (.int .u8 (k : Int)) := by
    obtain ⟨x, e, hc⟩ := hrd 0 (by omega)
    obtain rfl := Option.some.inj e
    rw [add_form, Nat.add_zero] at hc
    rw [hc, B_def, hk]
    rw [List.getElem?_eq_getElem (show 0 < m.length by omega)] at hv
    rw [Option.some.inj hv]
  have c2 : decide ((rm : Int) - 1 < k) = true := decide_eq_true (by omega)
  clear hrd hlen hke hv hk
  go_enter Try.func35, Try.ntmps35
  go_wp2_with (go_at_call 39; (with_reducible refine (right_ok (some ⟨b, o, none⟩) n c p rm _ hn HR.out).mono ?_); rintro e w1 ⟨rfl, rfl⟩)
  go_ret2
  exact ⟨rfl, rfl⟩

set_option maxHeartbeats 2000000 in
set_option maxRecDepth 100000 in
theorem rtt_dirty (b o n c p rm k : Nat) (m : List UInt8) (w : World) (hlen : m.length = rm) (hrd : Rd w (some ⟨b, o + p, none⟩) m) (hc : n ≤ c) (hcm : c ≤ 9223372036854775807) (hn : n ≤ 140737488351232) (hr : p + rm ≤ n) (h1 : 1 ≤ rm) (h2 : rm ≤ 256) (hke : k = (m.getD 0 0).toNat) (hl : k < rm) (hz : allZ (m.drop (1 + k)) = false) (hne : 1 + k < rm) :
    Calls Try.prog 35 #[.slice (some ⟨b, o, none⟩) n c, .int .i64 p, .int .i64 rm] w fun e w' => e = .returned (.tuple #[.string ⟨#[]⟩, .int .i64 15]) ∧ w = w' := by
  have c0 : decide ((rm : Int) < 1) = false := decide_eq_false (by omega)
  have c1 : decide (256 < (rm : Int)) = false := decide_eq_false (by omega)
  have HR : Hid (¬ NoRoom n p rm) := Lib.hid (by unfold NoRoom; omega)
  obtain ⟨v, hv⟩ : ∃ v, m[0]? = some v := ⟨_, List.getElem?_eq_getElem (by omega)⟩
  have hk : k = v.toNat := by rw [hke, List.getD, hv]; rfl
  have hk256 : k < 256 := by have := v.toNat_lt; omega
  have hcell : w.cell? ⟨b, o + p, none⟩ = some (.int .u8 (k : Int)) := by
    obtain ⟨x, e, hc⟩ := hrd 0 (by omega)
    obtain rfl := Option.some.inj e
    rw [add_form, Nat.add_zero] at hc
    rw [hc, B_def, hk]
    rw [List.getElem?_eq_getElem (show 0 < m.length by omega)] at hv
    rw [Option.some.inj hv]
  have c2 : decide ((rm : Int) - 1 < k) = false := decide_eq_false (by omega)
  have hdl : (m.drop (1 + k)).length = rm - (1 + k) := by simp; omega
  have HRd : Hid (Rd w (some ⟨b, o + p + (1 + k), none⟩) (m.drop (1 + k))) := Lib.hid (by
    have := hrd.sub (1 + k) rm
    rwa [List.take_of_length_le (by simp; omega)] at this)
  have HL := Lib.hid hdl
  have HZ := Lib.hid hz
  clear hrd hlen hke hv hk hdl hz
  have x1 : (p : Int) + 1 + k ≤ p + rm := by omega
  have x2 : (p : Int) + rm ≤ c := by omega
  have x3 : (p : Int) + 1 ≤ p + 1 + k := by omega
  have x4 : (p : Int) + 1 + k ≤ c := by omega
  have hpc : p < c := by omega
  have x5 : p + 1 + k < c := by omega
  go_enter Try.func35, Try.ntmps35
  go_wp2_with (first | (go_at_call 39; (with_reducible refine (right_ok (some ⟨b, o, none⟩) n c p rm _ hn HR.out).mono ?_); rintro e w1 ⟨rfl, rfl⟩) | (go_at_call 29; (with_reducible refine (RefWord.zero_calls _ _ _ (m.drop (1 + k)) _ (by have := HL.out; omega) (rd_cast HRd.out (by omega)) (by omega)).mono ?_); rw [HZ.out]; rintro e w2 ⟨rfl, rfl⟩))
  go_ret2
  exact ⟨rfl, rfl⟩

set_option maxHeartbeats 2000000 in
set_option maxRecDepth 100000 in
theorem rtt_finea (b o n c p rm k : Nat) (m : List UInt8) (w : World) (hlen : m.length = rm) (hrd : Rd w (some ⟨b, o + p, none⟩) m) (hc : n ≤ c) (hcm : c ≤ 9223372036854775807) (hn : n ≤ 140737488351232) (hr : p + rm ≤ n) (h1 : 1 ≤ rm) (h2 : rm ≤ 256) (hke : k = (m.getD 0 0).toNat) (hl : k < rm) (hz : allZ (m.drop (1 + k)) = true) (hne : p + 1 + k < c) :
    Calls Try.prog 35 #[.slice (some ⟨b, o, none⟩) n c, .int .i64 p, .int .i64 rm] w fun e w' => e = .returned (.tuple #[.string ⟨((m.drop 1).take k).toArray⟩, .int .i64 0]) ∧ w = w' := by
  have c0 : decide ((rm : Int) < 1) = false := decide_eq_false (by omega)
  have c1 : decide (256 < (rm : Int)) = false := decide_eq_false (by omega)
  have HR : Hid (¬ NoRoom n p rm) := Lib.hid (by unfold NoRoom; omega)
  obtain ⟨v, hv⟩ : ∃ v, m[0]? = some v := ⟨_, List.getElem?_eq_getElem (by omega)⟩
  have hk : k = v.toNat := by rw [hke, List.getD, hv]; rfl
  have hk256 : k < 256 := by have := v.toNat_lt; omega
  have hcell : w.cell? ⟨b, o + p, none⟩ = some (.int .u8 (k : Int)) := by
    obtain ⟨x, e, hc⟩ := hrd 0 (by omega)
    obtain rfl := Option.some.inj e
    rw [add_form, Nat.add_zero] at hc
    rw [hc, B_def, hk]
    rw [List.getElem?_eq_getElem (show 0 < m.length by omega)] at hv
    rw [Option.some.inj hv]
  have c2 : decide ((rm : Int) - 1 < k) = false := decide_eq_false (by omega)
  have hdl : (m.drop (1 + k)).length = rm - (1 + k) := by simp; omega
  have HRd : Hid (Rd w (some ⟨b, o + p + (1 + k), none⟩) (m.drop (1 + k))) := Lib.hid (by
    have := hrd.sub (1 + k) rm
    rwa [List.take_of_length_le (by simp; omega)] at this)
  have HL := Lib.hid hdl
  have HZ := Lib.hid hz
  have kc := conv_bytes (P := Try.prog) 22 5 9 Try.underlying22 Try.underlying5 Try.underlying9 (some ⟨b, o + (p + 1), none⟩) (k) (c - (p + 1)) ((m.drop 1).take k) w (by simp; omega) (rd_cast (hrd.sub 1 k) (by omega))
  generalize hs : (⟨((m.drop 1).take k).toArray⟩ : ByteArray) = s at *
  clear hs
  clear hrd hlen hke hv hk hdl hz
  have x1 : (p : Int) + 1 + k ≤ p + rm := by omega
  have x2 : (p : Int) + rm ≤ c := by omega
  have x3 : (p : Int) + 1 ≤ p + 1 + k := by omega
  have x4 : (p : Int) + 1 + k ≤ c := by omega
  have hpc : p < c := by omega
  have x5 : p + 1 < c := by omega
  have e1 : p + 1 + k - (p + 1) = k := by omega
  go_enter Try.func35, Try.ntmps35
  go_wp2_with (first | (go_at_call 39; (with_reducible refine (right_ok (some ⟨b, o, none⟩) n c p rm _ hn HR.out).mono ?_); rintro e w1 ⟨rfl, rfl⟩) | (go_at_call 29; (with_reducible refine (RefWord.zero_calls _ _ _ (m.drop (1 + k)) _ (by have := HL.out; omega) (rd_cast HRd.out (by omega)) (by omega)).mono ?_); rw [HZ.out]; rintro e w2 ⟨rfl, rfl⟩))
  go_ret2
  exact ⟨rfl, rfl⟩

set_option maxHeartbeats 2000000 in
set_option maxRecDepth 100000 in
theorem rtt_fineb (b o n c p rm k : Nat) (m : List UInt8) (w : World) (hlen : m.length = rm) (hrd : Rd w (some ⟨b, o + p, none⟩) m) (hc : n ≤ c) (hcm : c ≤ 9223372036854775807) (hn : n ≤ 140737488351232) (hr : p + rm ≤ n) (h1 : 1 ≤ rm) (h2 : rm ≤ 256) (hke : k = (m.getD 0 0).toNat) (hl : k < rm) (hz : allZ [] = true) (hA : p + 1 + k ≤ c) (hB : c ≤ p + 1 + k) (hk0 : 0 < k) :
    Calls Try.prog 35 #[.slice (some ⟨b, o, none⟩) n c, .int .i64 p, .int .i64 rm] w fun e w' => e = .returned (.tuple #[.string ⟨((m.drop 1).take k).toArray⟩, .int .i64 0]) ∧ w = w' := by
  have c0 : decide ((rm : Int) < 1) = false := decide_eq_false (by omega)
  have c1 : decide (256 < (rm : Int)) = false := decide_eq_false (by omega)
  have HR : Hid (¬ NoRoom n p rm) := Lib.hid (by unfold NoRoom; omega)
  obtain ⟨v, hv⟩ : ∃ v, m[0]? = some v := ⟨_, List.getElem?_eq_getElem (by omega)⟩
  have hk : k = v.toNat := by rw [hke, List.getD, hv]; rfl
  have hk256 : k < 256 := by have := v.toNat_lt; omega
  have hcell : w.cell? ⟨b, o + p, none⟩ = some (.int .u8 (k : Int)) := by
    obtain ⟨x, e, hc⟩ := hrd 0 (by omega)
    obtain rfl := Option.some.inj e
    rw [add_form, Nat.add_zero] at hc
    rw [hc, B_def, hk]
    rw [List.getElem?_eq_getElem (show 0 < m.length by omega)] at hv
    rw [Option.some.inj hv]
  have c2 : decide ((rm : Int) - 1 < k) = false := decide_eq_false (by omega)
  have hdl : (m.drop (1 + k)).length = rm - (1 + k) := by simp; omega
  have HRd : Hid (Rd w (some ⟨b, o + p + (1 + k), none⟩) (m.drop (1 + k))) := Lib.hid (by
    have := hrd.sub (1 + k) rm
    rwa [List.take_of_length_le (by simp; omega)] at this)
  have HL := Lib.hid hdl
  have HZ := Lib.hid hz
  have kc := conv_bytes (P := Try.prog) 22 5 9 Try.underlying22 Try.underlying5 Try.underlying9 (some ⟨b, o + (p + 1), none⟩) (k) (c - (p + 1)) ((m.drop 1).take k) w (by simp; omega) (rd_cast (hrd.sub 1 k) (by omega))
  generalize hs : (⟨((m.drop 1).take k).toArray⟩ : ByteArray) = s at *
  clear hs
  clear hrd hlen hke hv hk hdl hz
  have x1 : (p : Int) + 1 + k ≤ p + rm := by omega
  have x2 : (p : Int) + rm ≤ c := by omega
  have x3 : (p : Int) + 1 ≤ p + 1 + k := by omega
  have x4 : (p : Int) + 1 + k ≤ c := by omega
  have hpc : p < c := by omega
  have x5 : p + 1 < c := by omega
  have e1 : p + 1 + k - (p + 1) = k := by omega
  go_enter Try.func35, Try.ntmps35
  go_wp2_with (first | (go_at_call 39; (with_reducible refine (right_ok (some ⟨b, o, none⟩) n c p rm _ hn HR.out).mono ?_); rintro e w1 ⟨rfl, rfl⟩) | (go_at_call 29; (with_reducible refine (RefWord.zero_calls _ _ _ [] _ (by simp; omega) (Rd.nil _ _) (by omega)).mono ?_); rw [HZ.out]; rintro e w2 ⟨rfl, rfl⟩))
  go_ret2
  exact ⟨rfl, rfl⟩

set_option maxHeartbeats 2000000 in
set_option maxRecDepth 100000 in
theorem rtt_finec (b o n c p rm k : Nat) (m : List UInt8) (w : World) (hlen : m.length = rm) (hrd : Rd w (some ⟨b, o + p, none⟩) m) (hc : n ≤ c) (hcm : c ≤ 9223372036854775807) (hn : n ≤ 140737488351232) (hr : p + rm ≤ n) (h1 : 1 ≤ rm) (h2 : rm ≤ 256) (hke : k = (m.getD 0 0).toNat) (hl : k < rm) (hz : allZ [] = true) (hA : p + 1 ≤ c) (hB : c ≤ p + 1) (hk0 : k ≤ 0) :
    Calls Try.prog 35 #[.slice (some ⟨b, o, none⟩) n c, .int .i64 p, .int .i64 rm] w fun e w' => e = .returned (.tuple #[.string ⟨((m.drop 1).take k).toArray⟩, .int .i64 0]) ∧ w = w' := by
  have c0 : decide ((rm : Int) < 1) = false := decide_eq_false (by omega)
  have c1 : decide (256 < (rm : Int)) = false := decide_eq_false (by omega)
  have HR : Hid (¬ NoRoom n p rm) := Lib.hid (by unfold NoRoom; omega)
  obtain ⟨v, hv⟩ : ∃ v, m[0]? = some v := ⟨_, List.getElem?_eq_getElem (by omega)⟩
  have hk : k = v.toNat := by rw [hke, List.getD, hv]; rfl
  have hk256 : k < 256 := by have := v.toNat_lt; omega
  have hcell : w.cell? ⟨b, o + p, none⟩ = some (.int .u8 (k : Int)) := by
    obtain ⟨x, e, hc⟩ := hrd 0 (by omega)
    obtain rfl := Option.some.inj e
    rw [add_form, Nat.add_zero] at hc
    rw [hc, B_def, hk]
    rw [List.getElem?_eq_getElem (show 0 < m.length by omega)] at hv
    rw [Option.some.inj hv]
  have c2 : decide ((rm : Int) - 1 < k) = false := decide_eq_false (by omega)
  have hdl : (m.drop (1 + k)).length = rm - (1 + k) := by simp; omega
  have HRd : Hid (Rd w (some ⟨b, o + p + (1 + k), none⟩) (m.drop (1 + k))) := Lib.hid (by
    have := hrd.sub (1 + k) rm
    rwa [List.take_of_length_le (by simp; omega)] at this)
  have HL := Lib.hid hdl
  have HZ := Lib.hid hz
  have kc := conv_bytes (P := Try.prog) 22 5 9 Try.underlying22 Try.underlying5 Try.underlying9 (some ⟨b, o, none⟩) (k) (0) ((m.drop 1).take k) w (by simp; omega) (by rw [show k = 0 by omega]; exact Rd.nil _ _)
  generalize hs : (⟨((m.drop 1).take k).toArray⟩ : ByteArray) = s at *
  clear hs
  clear hrd hlen hke hv hk hdl hz
  have x1 : (p : Int) + 1 + k ≤ p + rm := by omega
  have x2 : (p : Int) + rm ≤ c := by omega
  have x3 : (p : Int) + 1 ≤ p + 1 + k := by omega
  have x4 : (p : Int) + 1 + k ≤ c := by omega
  have hpc : p < c := by omega
  have e1 : p + 1 + k - (p + 1) = k := by omega
  go_enter Try.func35, Try.ntmps35
  go_wp2_with (first | (go_at_call 39; (with_reducible refine (right_ok (some ⟨b, o, none⟩) n c p rm _ hn HR.out).mono ?_); rintro e w1 ⟨rfl, rfl⟩) | (go_at_call 29; (with_reducible refine (RefWord.zero_calls _ _ _ [] _ (by simp; omega) (Rd.nil _ _) (by omega)).mono ?_); rw [HZ.out]; rintro e w2 ⟨rfl, rfl⟩))
  go_ret2
  exact ⟨rfl, rfl⟩

theorem rtt_ok (b o n c p rm : Nat) (m : List UInt8) (w : World) (hlen : m.length = rm) (hrd : Rd w (some ⟨b, o + p, none⟩) m) (hc : n ≤ c) (hcm : c ≤ 9223372036854775807) (hn : n ≤ 140737488351232) (hr : p + rm ≤ n) (h1 : 1 ≤ rm) (h2 : rm ≤ 256) :
    Calls Try.prog 35 #[.slice (some ⟨b, o, none⟩) n c, .int .i64 p, .int .i64 rm] w fun e w' => TextIs m e ∧ w = w' := by
  unfold TextIs
  by_cases hl : rm ≤ (m.getD 0 0).toNat
  · rw [if_pos (.inl (by omega))]
    exact rtt_long b o n c p rm _ m w hlen hrd hc hcm hn hr h1 h2 rfl hl
  cases hz : allZ (m.drop (1 + (m.getD 0 0).toNat)) with
  | false =>
    rw [if_pos (.inr rfl)]
    have hne : 1 + (m.getD 0 0).toNat < rm := by
      have : m.drop (1 + (m.getD 0 0).toNat) ≠ [] := by intro h; rw [h] at hz; cases hz
      have := List.length_pos_iff.2 this
      rw [List.length_drop] at this; omega
    exact rtt_dirty b o n c p rm _ m w hlen hrd hc hcm hn hr h1 h2 rfl (by omega) hz hne
  | true =>
    rw [if_neg (by intro h; rcases h with h | h; omega; cases h)]
    by_cases hx : p + 1 + (m.getD 0 0).toNat < c
    · exact rtt_finea b o n c p rm _ m w hlen hrd hc hcm hn hr h1 h2 rfl (by omega) hz hx
    by_cases hk0 : 0 < (m.getD 0 0).toNat
    · exact rtt_fineb b o n c p rm _ m w hlen hrd hc hcm hn hr h1 h2 rfl (by omega) rfl (by omega) (by omega) hk0
    · exact rtt_finec b o n c p rm _ m w hlen hrd hc hcm hn hr h1 h2 rfl (by omega) rfl (by omega) (by omega) (by omega)

theorem txt_get {s : ByteArray} {rm k : Nat} (h0 : 0 < k) (hk : k < rm) (hs : s.size < rm) (h : k < (txt s rm).length) : (txt s rm)[k] = if h : k - 1 < s.data.size then s.data[k - 1] else 0 := by
  have hl := Lib.size_eq s
  obtain ⟨j, rfl⟩ : ∃ j, k = j + 1 := ⟨k - 1, by omega⟩
  simp only [txt, List.cons_append, List.getElem_cons_succ, Nat.add_sub_cancel]
  split
  · rename_i hj
    rw [List.getElem_append_left (by simpa using hj)]
    simp
  · rename_i hj
    rw [List.getElem_append_right (by simpa using hj)]
    simp
theorem set_set (cs : Array Value) (i : Nat) (a b : Value) : (cs.setIfInBounds i a).setIfInBounds i b = cs.setIfInBounds i b := by
  apply Array.ext
  · simp
  · intro j h1 h2
    simp [Array.getElem_setIfInBounds]

set_option maxHeartbeats 2000000 in
set_option maxRecDepth 100000 in
theorem rpt_ok (g o n c p rm z : Nat) (s : ByteArray) (cs : Array Value) (t : TypeId) (w : World) (hb : Bk w g cs t) (hc : n ≤ c) (hcm : c ≤ 9223372036854775807) (hn : n ≤ 140737488351232) (hcs : o + n ≤ cs.size) (hr : p + rm ≤ n) (h1 : 1 ≤ rm) (h2 : rm ≤ 256) (hz : s.size = z) (hk : z < rm) :
    Calls Try.prog 37 #[.slice (some ⟨g, o, none⟩) n c, .int .i64 p, .int .i64 rm, .string s] w (PutPost g cs t (o + p) (txt s rm) w 0) := by
  have c0 : decide ((rm : Int) < 1) = false := decide_eq_false (by omega)
  have c1 : decide (256 < (rm : Int)) = false := decide_eq_false (by omega)
  have c2 : decide ((rm : Int) - 1 < z) = false := decide_eq_false (by omega)
  have HR : Hid (¬ NoRoom n p rm) := Lib.hid (by unfold NoRoom; omega)
  obtain ⟨v0, hv0⟩ : ∃ v0, w.cell? ⟨g, o + p, none⟩ = some v0 := ⟨_, (hb.cell _).trans (Array.getElem?_eq_getElem (by omega))⟩
  have hf0 := hb.free (o + p)
  have hb1 : Bk (w.setCell ⟨g, o + p, none⟩ (.int .u8 (z : Int))) g (lay cs (o + p) (((txt s rm).map B).take 1)) t := by
    have e : ((txt s rm).map B).take 1 = [.int .u8 (z : Int)] := by
      simp [txt, B_ofNat, hz]; omega
    rw [e]
    exact hb.set (o + p) _
  have hfr1 : Fr (· = g) w (w.setCell ⟨g, o + p, none⟩ (.int .u8 (z : Int))) := (Fr.refl _ _).set _ _ (.inr rfl)
  have HB := Lib.hid hb1
  have HF := Lib.hid hfr1
  have hz8 : (z : Int) % 256 = z := by omega
  have HT : Hid (∀ k, 0 < k → k < rm → ∀ h : k < (txt s rm).length, (txt s rm)[k] = if h : k - 1 < s.data.size then s.data[k - 1] else 0) := Lib.hid fun k h0 hk' h => txt_get h0 hk' (by omega) h
  have HL : Hid ((txt s rm).length = rm) := Lib.hid (txt_length (by omega))
  have HS : Hid (s.data.size = z) := Lib.hid (by rw [← hz]; rfl)
  clear hb hb1 hfr1
  go_enter Try.func37, Try.ntmps37
  go_wp2_with (go_at_call 39; (with_reducible refine (right_ok (some ⟨g, o, none⟩) n c p rm _ hn HR.out).mono ?_); rintro e w1 ⟨rfl, rfl⟩)

  go_loopw [9] (fun u wr => ∃ k : Nat, 1 ≤ k ∧ k ≤ rm ∧ u = .int .i64 k ∧ Bk wr g (lay cs (o + p) (((txt s rm).map B).take k)) t ∧ Fr (· = g) w wr) (fun u _ => rm - (intOf u).toNat)
  case atStart => exact ⟨1, by omega, by omega, rfl, HB.out, HF.out⟩
  case round =>
    obtain ⟨k, hk0, hk, rfl, hbk, hfr⟩ := hrel
    have hlt0 : o + p + k < cs.size ∨ k = rm := by omega
    have HBK := Lib.hid hbk
    have HFR := Lib.hid hfr
    clear hbk hfr
    by_cases hlt : k < rm
    · obtain ⟨v1, hv1⟩ : ∃ v1, wr.cell? ⟨g, o + (p + k), none⟩ = some v1 := ⟨_, (HBK.out.cell _).trans (Array.getElem?_eq_getElem (by simp; omega))⟩
      have hfz := HBK.out.free (o + (p + k))
      clear hlt0
      by_cases hkz : k ≤ z
      · have d1 : decide (k ≤ z) = true := decide_eq_true hkz
        go_wp2
        have hks : k - 1 < s.data.size := by have := HS.out; omega
        have hv : ((txt s rm).map B)[k]'(by have := HL.out; simp; omega) = .int .u8 ((s.data[k - 1].toNat : Nat) : Int) := by
          rw [List.getElem_map, HT.out k hk0 hlt (by have := HL.out; omega), dif_pos hks]; rfl
        refine ⟨⟨k + 1, by omega, by omega, by go_num, ?_, (HFR.out.set _ _ (.inr rfl)).set _ _ (.inr rfl)⟩, by simp [intOf]; omega⟩
        rw [lay_take (by have := HL.out; simp; omega), hv, Nat.add_assoc, ← set_set _ _ (.int .u8 0)]
        exact (HBK.out.set _ _).set _ _
      · have d1 : decide (k ≤ z) = false := decide_eq_false hkz
        go_wp2
        have hv : ((txt s rm).map B)[k]'(by have := HL.out; simp; omega) = .int .u8 0 := by
          rw [List.getElem_map, HT.out k hk0 hlt (by have := HL.out; omega), dif_neg (by have := HS.out; omega)]; rfl
        refine ⟨⟨k + 1, by omega, by omega, by go_num, ?_, HFR.out.set _ _ (.inr rfl)⟩, by simp [intOf]; omega⟩
        rw [lay_take (by have := HL.out; simp; omega), hv, Nat.add_assoc]
        exact HBK.out.set _ _
    · obtain rfl : k = rm := by omega
      go_wp2
      go_ret
      refine ⟨rfl, ?_, HFR.out⟩
      have := HBK.out
      rwa [List.take_of_length_le (by have := HL.out; simp; omega)] at this

end Go.Proofs.Ytkajbhkhecoccaa.RefText
