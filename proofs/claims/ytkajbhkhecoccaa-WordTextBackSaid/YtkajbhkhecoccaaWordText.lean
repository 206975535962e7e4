/- Texts in fixed room: the walks of word.TakeText and PutText. -/
import Derived.Test.YtkajbhkhecoccaaRefWord
import Derived.Test.YtkajbhkhecoccaaRefCopy
import Derived.Lib.BufferWrite
import Derived.Lib.SliceRun
set_option linter.unusedVariables false
set_option linter.unusedSimpArgs false
namespace Go.Proofs.Ytkajbhkhecoccaa.WordText
open Go Go.RowKit Go.Proofs.Ytkajbhkhecoccaa.K Go.Proofs.Ytkajbhkhecoccaa.WordPut Go.Proofs.Ytkajbhkhecoccaa.WordTake Go.Proofs.Ytkajbhkhecoccaa.RefCopy

theorem ret_si {s t : ByteArray} {b b' : Int} (h1 : s = t) (h2 : b = b') : Ending.returned (.tuple #[.string s, .int .i64 b]) = .returned (.tuple #[.string t, .int .i64 b']) := by rw [h1, h2]
/-- a text's answer -/
def TextNo (e : Ending) (r : Int) : Prop := e = .returned (.tuple #[.string ⟨#[]⟩, .int .i64 r])

set_option maxHeartbeats 2000000 in
set_option maxRecDepth 100000 in
theorem tt_low (a : Option Addr) (n c : Nat) (p rm : Int) (w : World) (hn : n ≤ 140737488351232) (h : rm < 1) :
    Calls Try.prog 34 #[.slice a n c, .int .i64 p, .int .i64 rm] w fun e w' => e = .returned (.tuple #[.string ⟨#[]⟩, .int .i64 1]) ∧ w = w' := by
  have c0 : decide (rm < 1) = true := decide_eq_true (by omega)
  go_enter Try.func34, Try.ntmps34
  go_wp2_with (fail)
  go_ret2
  exact ⟨rfl, rfl⟩

set_option maxHeartbeats 2000000 in
set_option maxRecDepth 100000 in
theorem tt_high (a : Option Addr) (n c : Nat) (p rm : Int) (w : World) (hn : n ≤ 140737488351232) (h : 256 < rm) :
    Calls Try.prog 34 #[.slice a n c, .int .i64 p, .int .i64 rm] w fun e w' => e = .returned (.tuple #[.string ⟨#[]⟩, .int .i64 1]) ∧ w = w' := by
  have c0 : decide (rm < 1) = false := decide_eq_false (by omega)
  have c1 : decide (256 < rm) = true := decide_eq_true (by omega)
  go_enter Try.func34, Try.ntmps34
  go_wp2_with (fail)
  go_ret2
  exact ⟨rfl, rfl⟩

set_option maxHeartbeats 2000000 in
set_option maxRecDepth 100000 in
theorem tt_room (a : Option Addr) (n c : Nat) (p rm : Int) (w : World) (hn : n ≤ 140737488351232) (h1 : 1 ≤ rm) (h2 : rm ≤ 256) (hr : NoRoom n p rm) :
    Calls Try.prog 34 #[.slice a n c, .int .i64 p, .int .i64 rm] w fun e w' => e = .returned (.tuple #[.string ⟨#[]⟩, .int .i64 1]) ∧ w = w' := by
  have c0 : decide (rm < 1) = false := decide_eq_false (by omega)
  have c1 : decide (256 < rm) = false := decide_eq_false (by omega)
  have HR := Lib.hid hr
  clear hr
  go_enter Try.func34, Try.ntmps34
  go_wp2_with (go_at_call 38; (with_reducible refine (cut_no a n c p rm _ hn HR.out).mono ?_); rintro e w1 ⟨rfl, rfl⟩)
  go_ret2
  exact ⟨rfl, rfl⟩

theorem tt_no (a : Option Addr) (n c : Nat) (p rm : Int) (w : World) (hn : n ≤ 140737488351232) (h : rm < 1 ∨ 256 < rm ∨ NoRoom n p rm) :
    Calls Try.prog 34 #[.slice a n c, .int .i64 p, .int .i64 rm] w fun e w' => e = .returned (.tuple #[.string ⟨#[]⟩, .int .i64 1]) ∧ w = w' := by
  by_cases h1 : rm < 1
  · exact tt_low a n c p rm w hn h1
  by_cases h2 : 256 < rm
  · exact tt_high a n c p rm w hn h2
  · exact tt_room a n c p rm w hn (by omega) (by omega) (by rcases h with h | h | h; omega; omega; exact h)

set_option maxHeartbeats 2000000 in
set_option maxRecDepth 100000 in
theorem tt_long (b o n c p rm k : Nat) (m : List UInt8) (w : World) (hlen : m.length = rm) (hrd : Rd w (some ⟨b, o + p, none⟩) m) (hc : n ≤ c) (hcm : c ≤ 9223372036854775807) (hn : n ≤ 140737488351232) (hr : p + rm ≤ n) (h1 : 1 ≤ rm) (h2 : rm ≤ 256) (hke : k = (m.getD 0 0).toNat) (hl : rm ≤ k) :
    Calls Try.prog 34 #[.slice (some ⟨b, o, none⟩) n c, .int .i64 p, .int .i64 rm] w fun e w' => e = .returned (.tuple #[.string ⟨#[]⟩, .int .i64 15]) ∧ w = w' := by
  have c0 : decide ((rm : Int) < 1) = false := decide_eq_false (by omega)
  have c1 : decide (256 < (rm : Int)) = false := decide_eq_false (by omega)
  obtain ⟨v, hv⟩ : ∃ v, m[0]? = some v := ⟨_, List.getElem?_eq_getElem (by omega)⟩
  have hk : k = v.toNat := by rw [hke, List.getD, hv]; rfl
  have hk256 : k < 256 := by have := v.toNat_lt; omega
  have hcell : w.cell? ⟨b, o + p, none⟩ = some (.int .u8 (k : Int)) := by
    obtain ⟨x, e, hc⟩ := hrd 0 (by omega)
    obtain rfl := Option.some.inj e
    rw [add_form, Nat.add_zero] at hc
    rw [hc, B_def, hk]
    rw [List.getElem?_eq_getElem (show 0 < m.length by omega)] at hv
    rw [Option.some.inj hv]
  have c2 : decide (rm ≤ k) = true := decide_eq_true hl
  clear hrd hlen hke hv hk
  go_enter Try.func34, Try.ntmps34
  go_wp2_with (go_at_call 38; (with_reducible refine (cut_ok b o n c p rm _ hc hcm hn hr (by omega)).mono ?_); rintro e w1 ⟨rfl, rfl⟩)
  go_ret2
  exact ⟨rfl, rfl⟩
set_option maxHeartbeats 2000000 in
set_option maxRecDepth 100000 in
theorem tt_dirty (b o n c p rm k : Nat) (m : List UInt8) (w : World) (hlen : m.length = rm) (hrd : Rd w (some ⟨b, o + p, none⟩) m) (hc : n ≤ c) (hcm : c ≤ 9223372036854775807) (hn : n ≤ 140737488351232) (hr : p + rm ≤ n) (h1 : 1 ≤ rm) (h2 : rm ≤ 256) (hke : k = (m.getD 0 0).toNat) (hl : k < rm) (hz : allZ (m.drop (1 + k)) = false) :
    Calls Try.prog 34 #[.slice (some ⟨b, o, none⟩) n c, .int .i64 p, .int .i64 rm] w fun e w' => e = .returned (.tuple #[.string ⟨#[]⟩, .int .i64 15]) ∧ w = w' := by
  have c0 : decide ((rm : Int) < 1) = false := decide_eq_false (by omega)
  have c1 : decide (256 < (rm : Int)) = false := decide_eq_false (by omega)
  obtain ⟨v, hv⟩ : ∃ v, m[0]? = some v := ⟨_, List.getElem?_eq_getElem (by omega)⟩
  have hk : k = v.toNat := by rw [hke, List.getD, hv]; rfl
  have hk256 : k < 256 := by have := v.toNat_lt; omega
  have hcell : w.cell? ⟨b, o + p, none⟩ = some (.int .u8 (k : Int)) := by
    obtain ⟨x, e, hc⟩ := hrd 0 (by omega)
    obtain rfl := Option.some.inj e
    rw [add_form, Nat.add_zero] at hc
    rw [hc, B_def, hk]
    rw [List.getElem?_eq_getElem (show 0 < m.length by omega)] at hv
    rw [Option.some.inj hv]
  have c2 : decide (rm ≤ k) = false := decide_eq_false (by omega)
  have hdl : (m.drop (1 + k)).length = rm - (1 + k) := by simp; omega
  have hd2 : Rd w (some ⟨b, o + p + (1 + k), none⟩) (m.drop (1 + k)) := by
    have := hrd.sub (1 + k) rm
    rwa [List.take_of_length_le (by simp; omega)] at this
  have hne : 1 + k < c - p := by
    have : m.drop (1 + k) ≠ [] := by intro h; rw [h] at hz; cases hz
    have : 0 < (m.drop (1 + k)).length := List.length_pos_iff.2 this
    omega
  have Z0 := WordTake.zero_calls (some ⟨b, o + p + (1 + k), none⟩) (rm - (1 + k)) (c - p - (1 + k)) _ w hdl hd2 (by omega) (by omega) (by omega)
  rw [hz] at Z0
  have HZ := Lib.hid Z0
  clear Z0 hd2 hdl hrd hlen hke hv hk hz
  have x1 : (1 : Int) + k ≤ rm := by omega
  go_enter Try.func34, Try.ntmps34
  go_wp2_with (first | (go_at_call 38; (with_reducible refine (cut_ok b o n c p rm _ hc hcm hn hr (by omega)).mono ?_); rintro e w1 ⟨rfl, rfl⟩) | (go_at_call 28; (with_reducible refine HZ.out.mono ?_); rintro e w2 ⟨rfl, rfl⟩))
  go_ret2
  exact ⟨rfl, rfl⟩

set_option maxHeartbeats 2000000 in
set_option maxRecDepth 100000 in
theorem tt_finea (b o n c p rm k : Nat) (m : List UInt8) (w : World) (hlen : m.length = rm) (hrd : Rd w (some ⟨b, o + p, none⟩) m) (hc : n ≤ c) (hcm : c ≤ 9223372036854775807) (hn : n ≤ 140737488351232) (hr : p + rm ≤ n) (h1 : 1 ≤ rm) (h2 : rm ≤ 256) (hke : k = (m.getD 0 0).toNat) (hl : k < rm) (hz : allZ (m.drop (1 + k)) = true) (hne : 1 + k < c - p) :
    Calls Try.prog 34 #[.slice (some ⟨b, o, none⟩) n c, .int .i64 p, .int .i64 rm] w fun e w' => e = .returned (.tuple #[.string ⟨((m.drop 1).take k).toArray⟩, .int .i64 0]) ∧ w = w' := by
  have c0 : decide ((rm : Int) < 1) = false := decide_eq_false (by omega)
  have c1 : decide (256 < (rm : Int)) = false := decide_eq_false (by omega)
  obtain ⟨v, hv⟩ : ∃ v, m[0]? = some v := ⟨_, List.getElem?_eq_getElem (by omega)⟩
  have hk : k = v.toNat := by rw [hke, List.getD, hv]; rfl
  have hk256 : k < 256 := by have := v.toNat_lt; omega
  have hcell : w.cell? ⟨b, o + p, none⟩ = some (.int .u8 (k : Int)) := by
    obtain ⟨x, e, hc⟩ := hrd 0 (by omega)
    obtain rfl := Option.some.inj e
    rw [add_form, Nat.add_zero] at hc
    rw [hc, B_def, hk]
    rw [List.getElem?_eq_getElem (show 0 < m.length by omega)] at hv
    rw [Option.some.inj hv]
  have c2 : decide (rm ≤ k) = false := decide_eq_false (by omega)
  have hdl : (m.drop (1 + k)).length = rm - (1 + k) := by simp; omega
  have hd2 : Rd w (some ⟨b, o + p + (1 + k), none⟩) (m.drop (1 + k)) := by
    have := hrd.sub (1 + k) rm
    rwa [List.take_of_length_le (by simp; omega)] at this
  have Z0 := WordTake.zero_calls (some ⟨b, o + p + (1 + k), none⟩) (rm - (1 + k)) (c - p - (1 + k)) _ w hdl hd2 (by omega) (by omega) (by omega)
  rw [hz] at Z0
  have HZ := Lib.hid Z0
  have kc := conv_bytes (P := Try.prog) 22 5 9 Try.underlying22 Try.underlying5 Try.underlying9 (some ⟨b, o + p + 1, none⟩) k (c - p - 1) ((m.drop 1).take k) w (by simp; omega) (hrd.sub 1 k)
  generalize hs : (⟨((m.drop 1).take k).toArray⟩ : ByteArray) = s at *
  have e1 : 1 + k - 1 = k := by omega
  clear Z0 hd2 hdl hrd hlen hke hv hk hz hs
  have x1 : (1 : Int) + k ≤ rm := by omega
  have x2 : (1 : Int) + k ≤ ((c - p : Nat) : Int) := by omega
  have x3 : (1 : Int) ≤ 1 + k := by omega
  go_enter Try.func34, Try.ntmps34
  go_wp2_with (first | (go_at_call 38; (with_reducible refine (cut_ok b o n c p rm _ hc hcm hn hr (by omega)).mono ?_); rintro e w1 ⟨rfl, rfl⟩) | (go_at_call 28; (with_reducible refine HZ.out.mono ?_); rintro e w2 ⟨rfl, rfl⟩))
  go_ret2
  exact ⟨rfl, rfl⟩

set_option maxHeartbeats 2000000 in
set_option maxRecDepth 100000 in
theorem tt_fineb (b o n c p rm k : Nat) (m : List UInt8) (w : World) (hlen : m.length = rm) (hrd : Rd w (some ⟨b, o + p, none⟩) m) (hc : n ≤ c) (hcm : c ≤ 9223372036854775807) (hn : n ≤ 140737488351232) (hr : p + rm ≤ n) (h1 : 1 ≤ rm) (h2 : rm ≤ 256) (hke : k = (m.getD 0 0).toNat) (hl : k < rm) (hA : 1 + k ≤ c - p) (hB : c - p ≤ 1 + k) (hk0 : 0 < k) :
    Calls Try.prog 34 #[.slice (some ⟨b, o, none⟩) n c, .int .i64 p, .int .i64 rm] w fun e w' => e = .returned (.tuple #[.string ⟨((m.drop 1).take k).toArray⟩, .int .i64 0]) ∧ w = w' := by
  have c0 : decide ((rm : Int) < 1) = false := decide_eq_false (by omega)
  have c1 : decide (256 < (rm : Int)) = false := decide_eq_false (by omega)
  obtain ⟨v, hv⟩ : ∃ v, m[0]? = some v := ⟨_, List.getElem?_eq_getElem (by omega)⟩
  have hk : k = v.toNat := by rw [hke, List.getD, hv]; rfl
  have hk256 : k < 256 := by have := v.toNat_lt; omega
  have hcell : w.cell? ⟨b, o + p, none⟩ = some (.int .u8 (k : Int)) := by
    obtain ⟨x, e, hc⟩ := hrd 0 (by omega)
    obtain rfl := Option.some.inj e
    rw [add_form, Nat.add_zero] at hc
    rw [hc, B_def, hk]
    rw [List.getElem?_eq_getElem (show 0 < m.length by omega)] at hv
    rw [Option.some.inj hv]
  have c2 : decide (rm ≤ k) = false := decide_eq_false (by omega)
  have hrm : rm - (1 + k) = 0 := by omega
  have hcp : c - p - (1 + k) = 0 := by omega
  have HZ : Hid (Calls Try.prog 28 #[.slice (some ⟨b, o + p, none⟩) (rm - (1 + k)) (0)] w fun e w' => e = .returned (.bool true) ∧ w = w') := Lib.hid (by rw [hrm]; exact WordTake.zero_empty _ 0 w)
  have hd3 : Rd w (some ⟨b, o + p + 1, none⟩) ((m.drop 1).take k) := by
    exact hrd.sub 1 k
  have kc := conv_bytes (P := Try.prog) 22 5 9 Try.underlying22 Try.underlying5 Try.underlying9 (some ⟨b, o + p + 1, none⟩) k (c - p - 1) _ w (by simp; omega) hd3
  generalize hs : (⟨((m.drop 1).take k).toArray⟩ : ByteArray) = s at *
  have e1 : 1 + k - 1 = k := by omega
  clear hd3 hrd hlen hke hv hk hs hrm hcp
  have x1 : (1 : Int) + k ≤ rm := by omega
  have x2 : (1 : Int) + k ≤ ((c - p : Nat) : Int) := by omega
  have x3 : (1 : Int) ≤ 1 + k := by omega
  
  
  go_enter Try.func34, Try.ntmps34
  go_wp2_with (first | (go_at_call 38; (with_reducible refine (cut_ok b o n c p rm _ hc hcm hn hr (by omega)).mono ?_); rintro e w1 ⟨rfl, rfl⟩) | (go_at_call 28; (with_reducible refine HZ.out.mono ?_); rintro e w2 ⟨rfl, rfl⟩))
  go_ret2
  exact ⟨rfl, rfl⟩

set_option maxHeartbeats 2000000 in
set_option maxRecDepth 100000 in
theorem tt_finec (b o n c p rm k : Nat) (m : List UInt8) (w : World) (hlen : m.length = rm) (hrd : Rd w (some ⟨b, o + p, none⟩) m) (hc : n ≤ c) (hcm : c ≤ 9223372036854775807) (hn : n ≤ 140737488351232) (hr : p + rm ≤ n) (h1 : 1 ≤ rm) (h2 : rm ≤ 256) (hke : k = (m.getD 0 0).toNat) (hl : k < rm) (hA : 1 ≤ c - p) (hB : c - p ≤ 1) (hk0 : k = 0) :
    Calls Try.prog 34 #[.slice (some ⟨b, o, none⟩) n c, .int .i64 p, .int .i64 rm] w fun e w' => e = .returned (.tuple #[.string ⟨((m.drop 1).take k).toArray⟩, .int .i64 0]) ∧ w = w' := by
  have c0 : decide ((rm : Int) < 1) = false := decide_eq_false (by omega)
  have c1 : decide (256 < (rm : Int)) = false := decide_eq_false (by omega)
  obtain ⟨v, hv⟩ : ∃ v, m[0]? = some v := ⟨_, List.getElem?_eq_getElem (by omega)⟩
  have hk : k = v.toNat := by rw [hke, List.getD, hv]; rfl
  have hk256 : k < 256 := by have := v.toNat_lt; omega
  have hcell : w.cell? ⟨b, o + p, none⟩ = some (.int .u8 (k : Int)) := by
    obtain ⟨x, e, hc⟩ := hrd 0 (by omega)
    obtain rfl := Option.some.inj e
    rw [add_form, Nat.add_zero] at hc
    rw [hc, B_def, hk]
    rw [List.getElem?_eq_getElem (show 0 < m.length by omega)] at hv
    rw [Option.some.inj hv]
  have c2 : decide (rm ≤ k) = false := decide_eq_false (by omega)
  have hrm : rm - (1 + k) = 0 := by omega
  have hcp : c - p - (1 + k) = 0 := by omega
  have HZ : Hid (Calls Try.prog 28 #[.slice (some ⟨b, o + p, none⟩) (rm - (1 + k)) (c - p - (1 + k))] w fun e w' => e = .returned (.bool true) ∧ w = w') := Lib.hid (by rw [hrm, hcp]; exact WordTake.zero_empty _ 0 w)
  have hd3 : Rd w (some ⟨b, o + p, none⟩) ((m.drop 1).take k) := by
    rw [hk0]; exact Rd.nil _ _
  have kc := conv_bytes (P := Try.prog) 22 5 9 Try.underlying22 Try.underlying5 Try.underlying9 (some ⟨b, o + p, none⟩) k (0) _ w (by simp; omega) hd3
  generalize hs : (⟨((m.drop 1).take k).toArray⟩ : ByteArray) = s at *
  have e1 : 1 + k - 1 = k := by omega
  clear hd3 hrd hlen hke hv hk hs hrm hcp
  have x1 : (1 : Int) + k ≤ rm := by omega
  have x2 : (1 : Int) + k ≤ ((c - p : Nat) : Int) := by omega
  have x3 : (1 : Int) ≤ 1 + k := by omega
  have hk1 : k ≤ 0 := by omega
  clear hk0
  go_enter Try.func34, Try.ntmps34
  go_wp2_with (first | (go_at_call 38; (with_reducible refine (cut_ok b o n c p rm _ hc hcm hn hr (by omega)).mono ?_); rintro e w1 ⟨rfl, rfl⟩) | (go_at_call 28; (with_reducible refine HZ.out.mono ?_); rintro e w2 ⟨rfl, rfl⟩))
  go_ret2
  exact ⟨rfl, rfl⟩

end Go.Proofs.Ytkajbhkhecoccaa.WordText
