/- The law WordBack: the walk. -/
import Derived.Test.YtkajbhkhecoccaaWordLawPuts
import Derived.Deep.QuietTactic
import Derived.BigQuiet
set_option linter.unusedVariables false
set_option linter.unusedSimpArgs false
namespace Go.Proofs.Ytkajbhkhecoccaa.WordLawBack
open Go Go.RowKit Go.Proofs.Ytkajbhkhecoccaa.K Go.Proofs.Ytkajbhkhecoccaa.WordPut Go.Proofs.Ytkajbhkhecoccaa.WordTake Go.Proofs.Ytkajbhkhecoccaa.RefCopy Go.Proofs.Ytkajbhkhecoccaa.WordLaws Go.Proofs.Ytkajbhkhecoccaa.WordLawPuts

theorem num_le (k : Nat) : ∀ x, x < 256 ^ k → num (le x k) = x := by
  induction k with
  | zero => intro x h; simp at h; subst h; rfl
  | succ k ih =>
    intro x h
    simp only [le, num]
    rw [ih (x / 256) (by rw [Nat.pow_succ] at h; exact Nat.div_lt_of_lt_mul (by omega))]
    simp only [UInt8.toNat_ofNat']
    omega
theorem fits_lt {x wd : Nat} (h : Fits x wd) (hx : x ≤ 9223372036854775807) : x < 256 ^ wd := by
  obtain ⟨h1, h2, h3, h4⟩ := h
  by_cases h8 : wd = 8
  · subst h8
    have : (256 : Nat) ^ 8 = 18446744073709551616 := by decide
    omega
  · have h5 := h4 (by omega)
    rw [show (8 * (wd : Int)).toNat = 8 * wd by omega] at h5
    have h6 : x / 2 ^ (8 * wd) = 0 := by
      have h7 : ((x / 2 ^ (8 * wd) : Nat) : Int) ≤ 0 := by rw [Int.natCast_ediv]; simpa using h5
      exact Nat.eq_zero_of_le_zero (by exact_mod_cast h7)
    rw [Nat.pow_mul] at h6
    exact Nat.lt_of_div_eq_zero (Nat.pow_pos (by decide)) h6
theorem splice_mid {l m : List UInt8} {p : Nat} (h : p + m.length ≤ l.length) : ((splice l p m).drop p).take m.length = m := by
  simp only [splice, List.append_assoc]
  rw [List.drop_append_of_le_length (by simp; omega), List.drop_eq_nil_of_le (by simp; omega), List.nil_append, List.take_append_of_le_length (Nat.le_refl _), List.take_length]

set_option maxHeartbeats 2000000 in
set_option maxRecDepth 100000 in
theorem back_no (a : Option Addr) (n c : Nat) (p wd x : Int) (l : List UInt8) (w : World) (hl : l.length = n) (hrd : Rd w a l) (hc : n ≤ c) (hcm : c ≤ 9223372036854775807) (hn : n ≤ 140737488351232) (hx : x ≤ 9223372036854775807) (hno : ¬ Fits x wd ∨ NoRoom n p wd) :
    Calls Try.prog 7 #[.slice a n c, .agg #[.int .i64 p, .int .i64 wd, .int .i64 x]] w fun e w' => e = .returned (.bool true) ∧ Fr0 w w' := by
  have HL := Lib.hid hl
  have HN := Lib.hid hno
  have HR0 : Hid (Rd (w.alloc (.cells #[.int .i64 p, .int .i64 wd, .int .i64 x] 23)) a l) := Lib.hid (hrd.later (Fr.alloc (Fr.refl (fun _ => False) w) _) (fun _ _ h => h))
  have e4 : decide (l = l) = true := by simp
  clear hl hrd hno
  go_enter Try.func7, Try.ntmps7
  go_wp2_with ((go_at_call 12; (with_reducible refine (alive_calls _).mono ?_); rintro e w1 ⟨rfl, hf1⟩; have HF1 := Lib.hid hf1; have k0 : w1.cell? ⟨w.heap.size, 0, none⟩ = some (.int .i64 p) := (hf1.cell _ 0 (by simp) (fun h => h)).trans (by simp); have k1 : w1.cell? ⟨w.heap.size, 1, none⟩ = some (.int .i64 wd) := (hf1.cell _ 1 (by simp) (fun h => h)).trans (by simp); have k2 : w1.cell? ⟨w.heap.size, 2, none⟩ = some (.int .i64 x) := (hf1.cell _ 2 (by simp) (fun h => h)).trans (by simp); have z1 : w.heap.size < w1.heap.size := hf1.lt (by simp); have R1 : Hid (Rd w1 a l) := Lib.hid (HR0.out.later hf1 (fun _ _ h => h)); clear hf1))
  go_wp2_with fail
  refine (copy_calls a n c l _ HL.out R1.out hn).mono ?_
  rintro e w2 ⟨g, cap, cur, rfl, hge, hown, hf2⟩
  have HF2 := Lib.hid hf2
  have HO := Lib.hid hown
  have k0' : w2.cell? ⟨w.heap.size, 0, none⟩ = some (.int .i64 p) := (hf2.cell _ 0 z1 (fun h => h)).trans k0
  have k1' : w2.cell? ⟨w.heap.size, 1, none⟩ = some (.int .i64 wd) := (hf2.cell _ 1 z1 (fun h => h)).trans k1
  have k2' : w2.cell? ⟨w.heap.size, 2, none⟩ = some (.int .i64 x) := (hf2.cell _ 2 z1 (fun h => h)).trans k2
  have z2 : w.heap.size < w2.heap.size := hf2.lt z1
  have R2 : Hid (Rd w2 a l) := Lib.hid (R1.out.later hf2 (fun _ _ h => h))
  have hcap : n ≤ cap := hown.room
  have hcapm : cap ≤ 9223372036854775807 := hown.cap
  clear k0 k1 k2 hf2 hown
  go_wp2_with (first
    | (go_at_call 14; (with_reducible refine (WordPut.put_no _ n cap p wd x _ hn hx HN.out).mono ?_); rintro e w3 ⟨rfl, rfl⟩)
    | (go_at_call 16; (with_reducible refine (same_calls _ a n n cap c l l _ HL.out HO.out.rd HL.out R2.out).mono ?_); rintro e w7 ⟨rfl, rfl⟩))
  go_ret
  exact ⟨by first | rfl | (simp; done), ((Fr.alloc (Fr.refl _ w) _).then0 HF1.out).then0 HF2.out⟩
set_option maxHeartbeats 2000000 in
set_option maxRecDepth 100000 in
theorem back_ok (a : Option Addr) (n c p wd x : Nat) (l : List UInt8) (w : World) (hl : l.length = n) (hrd : Rd w a l) (hc : n ≤ c) (hcm : c ≤ 9223372036854775807) (hn : n ≤ 140737488351232) (hx : x ≤ 9223372036854775807) (hr : p + wd ≤ n) (hf : Fits x wd) :
    Calls Try.prog 7 #[.slice a n c, .agg #[.int .i64 p, .int .i64 wd, .int .i64 x]] w fun e w' => e = .returned (.bool true) ∧ Fr0 w w' := by
  have hf1 := hf.1
  have hf2 := hf.2.1
  have HL := Lib.hid hl
  have HF := Lib.hid hf
  have HR0 : Hid (Rd (w.alloc (.cells #[.int .i64 p, .int .i64 wd, .int .i64 x] 23)) a l) := Lib.hid (hrd.later (Fr.alloc (Fr.refl (fun _ => False) w) _) (fun _ _ h => h))
  have hsl : (splice l p (le x wd)).length = n := (splice_length (by simp; omega)).trans hl
  have HS := Lib.hid hsl
  have HNUM : Hid (num (((splice l p (le x wd)).drop p).take wd) = x) := Lib.hid (by
    have := splice_mid (l := l) (m := le x wd) (p := p) (by simp; omega)
    rw [le_length] at this
    rw [this, num_le _ _ (fits_lt hf hx)])
  have HG : Hid (∀ i, i < n → ¬ (p ≤ i ∧ i < p + wd) → (splice l p (le x wd))[i]? = l[i]?) := Lib.hid (fun i hi h => by
    rw [splice_get (by simp; omega), if_neg (by rw [le_length]; exact h)])
  generalize hm : splice l p (le x wd) = m at *
  have HM := Lib.hid hm
  clear hm
  have hwd1 : 1 ≤ wd := by omega
  have hwd2 : wd ≤ 8 := by omega
  have ex1 : ((x : Int) == x) = true := by simp
  clear hl hrd hf hsl hf1 hf2
  go_enter Try.func7, Try.ntmps7
  go_wp2_with ((go_at_call 12; (with_reducible refine (alive_calls _).mono ?_); rintro e w1 ⟨rfl, hf1⟩; have HF1 := Lib.hid hf1; have k0 : w1.cell? ⟨w.heap.size, 0, none⟩ = some (.int .i64 p) := (hf1.cell _ 0 (by simp) (fun h => h)).trans (by simp); have k1 : w1.cell? ⟨w.heap.size, 1, none⟩ = some (.int .i64 wd) := (hf1.cell _ 1 (by simp) (fun h => h)).trans (by simp); have k2 : w1.cell? ⟨w.heap.size, 2, none⟩ = some (.int .i64 x) := (hf1.cell _ 2 (by simp) (fun h => h)).trans (by simp); have z1 : w.heap.size < w1.heap.size := hf1.lt (by simp); have R1 : Hid (Rd w1 a l) := Lib.hid (HR0.out.later hf1 (fun _ _ h => h)); clear hf1))
  go_wp2_with fail
  refine (copy_calls a n c l _ HL.out R1.out hn).mono ?_
  rintro e w2 ⟨g, cap, cur, rfl, hge, hown, hf2⟩
  have HF2 := Lib.hid hf2
  have HO := Lib.hid hown
  have k0' : w2.cell? ⟨w.heap.size, 0, none⟩ = some (.int .i64 p) := (hf2.cell _ 0 z1 (fun h => h)).trans k0
  have k1' : w2.cell? ⟨w.heap.size, 1, none⟩ = some (.int .i64 wd) := (hf2.cell _ 1 z1 (fun h => h)).trans k1
  have k2' : w2.cell? ⟨w.heap.size, 2, none⟩ = some (.int .i64 x) := (hf2.cell _ 2 z1 (fun h => h)).trans k2
  have z2 : w.heap.size < w2.heap.size := hf2.lt z1
  have R2 : Hid (Rd w2 a l) := Lib.hid (R1.out.later hf2 (fun _ _ h => h))
  have hcap : n ≤ cap := hown.room
  have hcapm : cap ≤ 9223372036854775807 := hown.cap
  clear k0 k1 k2 hf2 hown
  have n1 : ¬ w.heap.size = g := by omega
  go_wp2_with fail
  refine (own_put g n cap p wd x cur l _ HO.out hn hx hr HF.out).mono ?_
  rintro e w3 ⟨rfl, hOx, hfx⟩
  rw [HM.out] at hOx
  have k0 : w3.cell? ⟨w.heap.size, 0, none⟩ = some (.int .i64 p) := (hfx.cell _ 0 z2 n1).trans k0'
  have k1 : w3.cell? ⟨w.heap.size, 1, none⟩ = some (.int .i64 wd) := (hfx.cell _ 1 z2 n1).trans k1'
  have k2 : w3.cell? ⟨w.heap.size, 2, none⟩ = some (.int .i64 x) := (hfx.cell _ 2 z2 n1).trans k2'
  have RX : Hid (Rd w3 (some ⟨g, 0, none⟩) m) := Lib.hid hOx.rd
  have RL : Hid (Rd w3 a l) := Lib.hid (R1.out.past R2.out hfx (fun b hb h => by omega))
  have DF : Hid (Fr0 w w3) := Lib.hid ((((Fr.alloc (Fr.refl _ w) _).then0 HF1.out).then0 HF2.out).then hfx (fun i hi h => by omega))
  have T1 : Hid (Calls Try.prog 26 #[.slice (some ⟨g, 0, none⟩) n cap, .int .i64 p, .int .i64 wd] w3 fun e w' => e = .returned (.tuple #[.int .i64 x, .int .i64 0]) ∧ w3 = w') := Lib.hid (by
    have := WordTake.take_ok g 0 n cap p wd m w3 HS.out RX.out hcap hcapm hn hr hwd1 hwd2 (by rw [HNUM.out]; omega)
    rw [HNUM.out] at this
    exact this)
  clear hOx hfx k0' k1' k2'
  go_wp2_with (go_at_call 26; (with_reducible refine T1.out.mono ?_); rintro e w4 ⟨rfl, rfl⟩)
  go_loopw [9] (fun u wr => ∃ k q : Nat, k ≤ n ∧ u = .int .i64 k ∧ wr = w3.drewN q) (fun u _ => n - (intOf u).toNat)
  case atStart => exact ⟨0, 0, by omega, rfl, rfl⟩
  case round =>
    obtain ⟨k, q, hk, rfl, rfl⟩ := hrel
    have DQ : Hid (Fr0 w (w3.drewN q)) := Lib.hid (DF.out.drewN q)
    have q0 : (w3.drewN q).cell? ⟨w.heap.size, 0, none⟩ = some (.int .i64 p) := k0
    have q1 : (w3.drewN q).cell? ⟨w.heap.size, 1, none⟩ = some (.int .i64 wd) := k1
    have q2 : (w3.drewN q).cell? ⟨w.heap.size, 2, none⟩ = some (.int .i64 x) := k2
    have QX : Hid (Rd (w3.drewN q) (some ⟨g, 0, none⟩) m) := Lib.hid RX.out
    have QL : Hid (Rd (w3.drewN q) a l) := Lib.hid RL.out
    have hnext : ∀ r, (w3.drewN q).drewN r = w3.drewN (q + r) := fun r => by simp [World.drewN, Nat.add_assoc]
    have HNX := Lib.hid hnext
    clear k0 k1 k2 RX RL hnext
    generalize w3.drewN q = wq at *
    by_cases hlt : k < n
    rotate_left
    · have c0 : decide ((k : Int) < n) = false := decide_eq_false (by omega)
      go_wp2
      go_ret
      exact ⟨rfl, DQ.out⟩
    have c0 : decide ((k : Int) < n) = true := decide_eq_true (by omega)
    obtain ⟨a1, ea1, ha1⟩ := QX.out k (by rw [HS.out]; exact hlt)
    obtain rfl := Option.some.inj ea1
    rw [add_form, Nat.zero_add] at ha1
    obtain ⟨a2, rfl, ha2⟩ := QL.out k (by rw [HL.out]; exact hlt)
    have hform : a2 = ⟨a2.block, a2.off, none⟩ := by
      obtain ⟨b, o, e, -, -⟩ := QL.out.form (by rw [HL.out]; omega)
      obtain rfl := Option.some.inj e
      rfl
    obtain ⟨b2, o2, s2⟩ := a2
    obtain rfl : s2 = none := by simpa using hform
    rw [add_form] at ha2
    by_cases hin : p ≤ k ∧ k < p + wd
    · have c1 : decide (k < p) = false := decide_eq_false (by omega)
      have c2 : decide ((wd : Int) ≤ (k : Int) - p) = false := decide_eq_false (by omega)
      clear ea1 hform
      go_wp2
      go_quiet (fail)
      go_wp2
      refine ⟨⟨k + 1, _, by omega, by go_num, HNX.out _⟩, by simp [intOf]; omega⟩
    · have hsame : m[k]'(by rw [HS.out]; exact hlt) = l[k]'(by rw [HL.out]; exact hlt) := by
        have := HG.out k hlt hin
        rw [List.getElem?_eq_getElem (by rw [HS.out]; exact hlt), List.getElem?_eq_getElem (by rw [HL.out]; exact hlt)] at this
        exact Option.some.inj this
      rw [hsame] at ha1
      clear hsame
      generalize l[k]'(by rw [HL.out]; exact hlt) = bv at *
      simp only [B] at ha1 ha2
      have e5 : ((bv.toNat : Int) != (bv.toNat : Int)) = false := by simp
      clear ea1 hform
      by_cases hk1 : k < p
      · have c1 : decide (k < p) = true := decide_eq_true hk1
        go_wp2
        go_quiet (fail)
        go_wp2
        refine ⟨⟨k + 1, _, by omega, by go_num, HNX.out _⟩, by simp [intOf]; omega⟩
      · have c1 : decide (k < p) = false := decide_eq_false hk1
        have c2 : decide ((wd : Int) ≤ (k : Int) - p) = true := decide_eq_true (by omega)
        go_wp2
        go_quiet (fail)
        go_wp2
        refine ⟨⟨k + 1, _, by omega, by go_num, HNX.out _⟩, by simp [intOf]; omega⟩
theorem back_all (a : Option Addr) (n c : Nat) (p wd x : Int) (l : List UInt8) (w : World) (hl : l.length = n) (hrd : Rd w a l) (hc : n ≤ c) (hcm : c ≤ 9223372036854775807) (hn : n ≤ 140737488351232) (hx : x ≤ 9223372036854775807) :
    Calls Try.prog 7 #[.slice a n c, .agg #[.int .i64 p, .int .i64 wd, .int .i64 x]] w fun e w' => e = .returned (.bool true) ∧ Fr0 w w' := by
  by_cases h : ¬ Fits x wd ∨ NoRoom n p wd
  · exact back_no a n c p wd x l w hl hrd hc hcm hn hx h
  · obtain ⟨h1, h2⟩ : Fits x wd ∧ ¬ NoRoom n p wd := by
      constructor
      · exact Classical.byContradiction fun h' => h (.inl h')
      · exact fun h' => h (.inr h')
    have hf := h1
    obtain ⟨f1, f2, f3, -⟩ := h1
    unfold NoRoom at h2
    obtain ⟨p, rfl⟩ := Int.eq_ofNat_of_zero_le (show 0 ≤ p by omega)
    obtain ⟨wd, rfl⟩ := Int.eq_ofNat_of_zero_le (show 0 ≤ wd by omega)
    obtain ⟨x, rfl⟩ := Int.eq_ofNat_of_zero_le f3
    exact back_ok a n c p wd x l w hl hrd hc hcm hn (by omega) (by omega) hf

end Go.Proofs.Ytkajbhkhecoccaa.WordLawBack
