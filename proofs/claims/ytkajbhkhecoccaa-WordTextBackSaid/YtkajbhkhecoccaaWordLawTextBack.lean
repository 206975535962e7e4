/- The law WordTextBack: the walk. -/
import Derived.Test.YtkajbhkhecoccaaWordLawTexts
import Derived.Deep.QuietTactic
import Derived.BigQuiet
set_option linter.unusedVariables false
set_option linter.unusedSimpArgs false
namespace Go.Proofs.Ytkajbhkhecoccaa.WordLawTextBack
open Go Go.RowKit Go.Proofs.Ytkajbhkhecoccaa.K Go.Proofs.Ytkajbhkhecoccaa.WordPut Go.Proofs.Ytkajbhkhecoccaa.WordTake Go.Proofs.Ytkajbhkhecoccaa.RefCopy Go.Proofs.Ytkajbhkhecoccaa.WordLaws Go.Proofs.Ytkajbhkhecoccaa.WordLawPuts Go.Proofs.Ytkajbhkhecoccaa.WordText Go.Proofs.Ytkajbhkhecoccaa.WordTextPut Go.Proofs.Ytkajbhkhecoccaa.RefText Go.Proofs.Ytkajbhkhecoccaa.WordLawTexts

set_option maxHeartbeats 2000000 in
set_option maxRecDepth 100000 in
theorem tback_no (a : Option Addr) (n c : Nat) (p rm : Int) (s : ByteArray) (l : List UInt8) (w : World) (hl : l.length = n) (hrd : Rd w a l) (hc : n ≤ c) (hcm : c ≤ 9223372036854775807) (hn : n ≤ 140737488351232) (hs : s.size ≤ 9223372036854775807) (hno : rm < 1 ∨ 256 < rm ∨ rm ≤ s.size ∨ NoRoom n p rm) :
    Calls Try.prog 10 #[.slice a n c, .agg #[.int .i64 p, .int .i64 rm], .string s] w fun e w' => e = .returned (.bool true) ∧ Fr0 w w' := by
  have HL := Lib.hid hl
  have HN := Lib.hid hno
  have HR0 : Hid (Rd (w.alloc (.cells #[.int .i64 p, .int .i64 rm] 50)) a l) := Lib.hid (hrd.later (Fr.alloc (Fr.refl (fun _ => False) w) _) (fun _ _ h => h))
  have e4 : decide (l = l) = true := by simp
  clear hl hrd hno
  go_enter Try.func10, Try.ntmps10
  go_wp2_with ((go_at_call 12; (with_reducible refine (alive_calls _).mono ?_); rintro e w1 ⟨rfl, hf1⟩; have HF1 := Lib.hid hf1; have k0 : w1.cell? ⟨w.heap.size, 0, none⟩ = some (.int .i64 p) := (hf1.cell _ 0 (by simp) (fun h => h)).trans (by simp); have k1 : w1.cell? ⟨w.heap.size, 1, none⟩ = some (.int .i64 rm) := (hf1.cell _ 1 (by simp) (fun h => h)).trans (by simp); have z1 : w.heap.size < w1.heap.size := hf1.lt (by simp); have R1 : Hid (Rd w1 a l) := Lib.hid (HR0.out.later hf1 (fun _ _ h => h)); clear hf1))
  go_wp2_with fail
  refine (copy_calls a n c l _ HL.out R1.out hn).mono ?_
  rintro e w2 ⟨g, cap, cur, rfl, hge, hown, hf2⟩
  have HF2 := Lib.hid hf2
  have HO := Lib.hid hown
  have k0' : w2.cell? ⟨w.heap.size, 0, none⟩ = some (.int .i64 p) := (hf2.cell _ 0 z1 (fun h => h)).trans k0
  have k1' : w2.cell? ⟨w.heap.size, 1, none⟩ = some (.int .i64 rm) := (hf2.cell _ 1 z1 (fun h => h)).trans k1
  have z2 : w.heap.size < w2.heap.size := hf2.lt z1
  have R2 : Hid (Rd w2 a l) := Lib.hid (R1.out.later hf2 (fun _ _ h => h))
  have hcap : n ≤ cap := hown.room
  have hcapm : cap ≤ 9223372036854775807 := hown.cap
  clear k0 k1 hf2 hown
  go_wp2_with (first
    | (go_at_call 36; (with_reducible refine (pt_no _ n cap p rm s _ hn hs HN.out).mono ?_); rintro e w3 ⟨rfl, rfl⟩)
    | (go_at_call 16; (with_reducible refine (same_calls _ a n n cap c l l _ HL.out HO.out.rd HL.out R2.out).mono ?_); rintro e w7 ⟨rfl, rfl⟩))
  go_ret
  exact ⟨by first | rfl | (simp; done), ((Fr.alloc (Fr.refl _ w) _).then0 HF1.out).then0 HF2.out⟩
set_option maxHeartbeats 2000000 in
set_option maxRecDepth 100000 in
theorem tback_ok (a : Option Addr) (n c p rm : Nat) (s : ByteArray) (l : List UInt8) (w : World) (hl : l.length = n) (hrd : Rd w a l) (hc : n ≤ c) (hcm : c ≤ 9223372036854775807) (hn : n ≤ 140737488351232) (hr : p + rm ≤ n) (hrm1 : 1 ≤ rm) (hrm2 : rm ≤ 256) (hs : s.size < rm) :
    Calls Try.prog 10 #[.slice a n c, .agg #[.int .i64 p, .int .i64 rm], .string s] w fun e w' => e = .returned (.bool true) ∧ Fr0 w w' := by
  have htl := txt_length hs
  have HL := Lib.hid hl
  have HT := Lib.hid hs
  have HR0 : Hid (Rd (w.alloc (.cells #[.int .i64 p, .int .i64 rm] 50)) a l) := Lib.hid (hrd.later (Fr.alloc (Fr.refl (fun _ => False) w) _) (fun _ _ h => h))
  have hsl : (splice l p (txt s rm)).length = n := (splice_length (by rw [htl]; omega)).trans hl
  have HS := Lib.hid hsl
  have HMID : Hid (((splice l p (txt s rm)).drop p).take rm = txt s rm) := Lib.hid (by
    have := WordLawBack.splice_mid (l := l) (m := txt s rm) (p := p) (by rw [htl]; omega)
    rwa [htl] at this)
  have HG : Hid (∀ i, i < n → ¬ (p ≤ i ∧ i < p + rm) → (splice l p (txt s rm))[i]? = l[i]?) := Lib.hid (fun i hi h => by
    rw [splice_get (by rw [htl]; omega), if_neg (by rw [htl]; exact h)])
  generalize hm : splice l p (txt s rm) = m at *
  have HM := Lib.hid hm
  clear hm hl hrd hsl htl hs
  go_enter Try.func10, Try.ntmps10
  go_wp2_with ((go_at_call 12; (with_reducible refine (alive_calls _).mono ?_); rintro e w1 ⟨rfl, hf1⟩; have HF1 := Lib.hid hf1; have k0 : w1.cell? ⟨w.heap.size, 0, none⟩ = some (.int .i64 p) := (hf1.cell _ 0 (by simp) (fun h => h)).trans (by simp); have k1 : w1.cell? ⟨w.heap.size, 1, none⟩ = some (.int .i64 rm) := (hf1.cell _ 1 (by simp) (fun h => h)).trans (by simp); have z1 : w.heap.size < w1.heap.size := hf1.lt (by simp); have R1 : Hid (Rd w1 a l) := Lib.hid (HR0.out.later hf1 (fun _ _ h => h)); clear hf1))
  go_wp2_with fail
  refine (copy_calls a n c l _ HL.out R1.out hn).mono ?_
  rintro e w2 ⟨g, cap, cur, rfl, hge, hown, hf2⟩
  have HF2 := Lib.hid hf2
  have HO := Lib.hid hown
  have k0' : w2.cell? ⟨w.heap.size, 0, none⟩ = some (.int .i64 p) := (hf2.cell _ 0 z1 (fun h => h)).trans k0
  have k1' : w2.cell? ⟨w.heap.size, 1, none⟩ = some (.int .i64 rm) := (hf2.cell _ 1 z1 (fun h => h)).trans k1
  have z2 : w.heap.size < w2.heap.size := hf2.lt z1
  have R2 : Hid (Rd w2 a l) := Lib.hid (R1.out.later hf2 (fun _ _ h => h))
  have hcap : n ≤ cap := hown.room
  have hcapm : cap ≤ 9223372036854775807 := hown.cap
  clear k0 k1 hf2 hown
  have n1 : ¬ w.heap.size = g := by omega
  go_wp2_with fail
  refine (own_pt g n cap p rm s cur l _ HO.out hn hr hrm1 hrm2 HT.out).mono ?_
  rintro e w3 ⟨rfl, ⟨curx, hOx⟩, hfx⟩
  rw [HM.out] at hOx
  have k0 : w3.cell? ⟨w.heap.size, 0, none⟩ = some (.int .i64 p) := (hfx.cell _ 0 z2 n1).trans k0'
  have k1 : w3.cell? ⟨w.heap.size, 1, none⟩ = some (.int .i64 rm) := (hfx.cell _ 1 z2 n1).trans k1'
  have RX : Hid (Rd w3 (some ⟨g, 0, none⟩) m) := Lib.hid hOx.rd
  have RL : Hid (Rd w3 a l) := Lib.hid (R1.out.past R2.out hfx (fun b hb h => by omega))
  have DF : Hid (Fr0 w w3) := Lib.hid ((((Fr.alloc (Fr.refl _ w) _).then0 HF1.out).then0 HF2.out).then hfx (fun i hi h => by omega))
  have T1 : Hid (Calls Try.prog 34 #[.slice (some ⟨g, 0, none⟩) n cap, .int .i64 p, .int .i64 rm] w3 fun e w' => e = .returned (.tuple #[.string s, .int .i64 0]) ∧ w3 = w') := Lib.hid (by
    have := tt_ok g 0 n cap p rm _ w3 (by simp; rw [HS.out]; omega) (RX.out.sub p rm) hcap hcapm hn hr hrm1 hrm2
    rw [HMID.out] at this
    exact this.mono fun e w' ⟨h1, h2⟩ => ⟨text_back HT.out hrm2 h1, h2⟩)
  clear hOx hfx k0' k1'
  go_wp2_with (go_at_call 34; (with_reducible refine T1.out.mono ?_); rintro e w4 ⟨rfl, rfl⟩)
  go_loopw [11] (fun u wr => ∃ k q : Nat, k ≤ n ∧ u = .int .i64 k ∧ wr = w3.drewN q) (fun u _ => n - (intOf u).toNat)
  case atStart => exact ⟨0, 0, by omega, rfl, rfl⟩
  case round =>
    obtain ⟨k, q, hk, rfl, rfl⟩ := hrel
    have DQ : Hid (Fr0 w (w3.drewN q)) := Lib.hid (DF.out.drewN q)
    have q0 : (w3.drewN q).cell? ⟨w.heap.size, 0, none⟩ = some (.int .i64 p) := k0
    have q1 : (w3.drewN q).cell? ⟨w.heap.size, 1, none⟩ = some (.int .i64 rm) := k1
    have QX : Hid (Rd (w3.drewN q) (some ⟨g, 0, none⟩) m) := Lib.hid RX.out
    have QL : Hid (Rd (w3.drewN q) a l) := Lib.hid RL.out
    have hnext : ∀ r, (w3.drewN q).drewN r = w3.drewN (q + r) := fun r => by simp [World.drewN, Nat.add_assoc]
    have HNX := Lib.hid hnext
    clear k0 k1 RX RL hnext
    generalize w3.drewN q = wq at *
    by_cases hlt : k < n
    rotate_left
    · have c0 : decide ((k : Int) < n) = false := decide_eq_false (by omega)
      go_wp2
      go_ret
      exact ⟨rfl, DQ.out⟩
    have c0 : decide ((k : Int) < n) = true := decide_eq_true (by omega)
    obtain ⟨a1, ea1, ha1⟩ := QX.out k (by rw [HS.out]; exact hlt)
    obtain rfl := Option.some.inj ea1
    rw [add_form, Nat.zero_add] at ha1
    obtain ⟨a2, rfl, ha2⟩ := QL.out k (by rw [HL.out]; exact hlt)
    have hform : a2 = ⟨a2.block, a2.off, none⟩ := by
      obtain ⟨b, o, e, -, -⟩ := QL.out.form (by rw [HL.out]; omega)
      obtain rfl := Option.some.inj e
      rfl
    obtain ⟨b2, o2, s2⟩ := a2
    obtain rfl : s2 = none := by simpa using hform
    rw [add_form] at ha2
    by_cases hin : p ≤ k ∧ k < p + rm
    · have c1 : decide (k < p) = false := decide_eq_false (by omega)
      have c2 : decide ((rm : Int) ≤ (k : Int) - p) = false := decide_eq_false (by omega)
      clear ea1 hform
      go_wp2
      go_quiet (fail)
      go_wp2
      refine ⟨⟨k + 1, _, by omega, by go_num, HNX.out _⟩, by simp [intOf]; omega⟩
    · have hsame : m[k]'(by rw [HS.out]; exact hlt) = l[k]'(by rw [HL.out]; exact hlt) := by
        have := HG.out k hlt hin
        rw [List.getElem?_eq_getElem (by rw [HS.out]; exact hlt), List.getElem?_eq_getElem (by rw [HL.out]; exact hlt)] at this
        exact Option.some.inj this
      rw [hsame] at ha1
      clear hsame
      generalize l[k]'(by rw [HL.out]; exact hlt) = bv at *
      simp only [B] at ha1 ha2
      have e5 : ((bv.toNat : Int) != (bv.toNat : Int)) = false := by simp
      clear ea1 hform
      by_cases hk1 : k < p
      · have c1 : decide (k < p) = true := decide_eq_true hk1
        go_wp2
        go_quiet (fail)
        go_wp2
        refine ⟨⟨k + 1, _, by omega, by go_num, HNX.out _⟩, by simp [intOf]; omega⟩
      · have c1 : decide (k < p) = false := decide_eq_false hk1
        have c2 : decide ((rm : Int) ≤ (k : Int) - p) = true := decide_eq_true (by omega)
        go_wp2
        go_quiet (fail)
        go_wp2
        refine ⟨⟨k + 1, _, by omega, by go_num, HNX.out _⟩, by simp [intOf]; omega⟩

theorem tback_all (a : Option Addr) (n c : Nat) (p rm : Int) (s : ByteArray) (l : List UInt8) (w : World) (hl : l.length = n) (hrd : Rd w a l) (hc : n ≤ c) (hcm : c ≤ 9223372036854775807) (hn : n ≤ 140737488351232) (hs : s.size ≤ 9223372036854775807) :
    Calls Try.prog 10 #[.slice a n c, .agg #[.int .i64 p, .int .i64 rm], .string s] w fun e w' => e = .returned (.bool true) ∧ Fr0 w w' := by
  by_cases h : rm < 1 ∨ 256 < rm ∨ rm ≤ s.size ∨ NoRoom n p rm
  · exact tback_no a n c p rm s l w hl hrd hc hcm hn hs h
  · have h2 : ¬ NoRoom n p rm := fun h' => h (.inr (.inr (.inr h')))
    have h3 : ¬ rm < 1 := fun h' => h (.inl h')
    have h4 : ¬ 256 < rm := fun h' => h (.inr (.inl h'))
    have h5 : ¬ rm ≤ s.size := fun h' => h (.inr (.inr (.inl h')))
    unfold NoRoom at h2
    obtain ⟨p, rfl⟩ := Int.eq_ofNat_of_zero_le (show 0 ≤ p by omega)
    obtain ⟨rm, rfl⟩ := Int.eq_ofNat_of_zero_le (show 0 ≤ rm by omega)
    exact tback_ok a n c p rm s l w hl hrd hc hcm hn (by omega) (by omega) (by omega) (by omega)

end Go.Proofs.Ytkajbhkhecoccaa.WordLawTextBack
