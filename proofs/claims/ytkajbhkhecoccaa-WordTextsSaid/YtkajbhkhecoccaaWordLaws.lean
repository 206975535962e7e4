/- The laws of layer 2 on numbers: the walks of alive and WordTakes. -/
import Derived.Test.YtkajbhkhecoccaaRefWord
import Derived.Test.YtkajbhkhecoccaaRefCopy
import Derived.Deep.RegionWith
set_option linter.unusedVariables false
set_option linter.unusedSimpArgs false
namespace Go.Proofs.Ytkajbhkhecoccaa.WordLaws
open Go Go.RowKit Go.Proofs.Ytkajbhkhecoccaa.K Go.Proofs.Ytkajbhkhecoccaa.WordPut Go.Proofs.Ytkajbhkhecoccaa.WordTake Go.Proofs.Ytkajbhkhecoccaa.RefCopy

theorem lay_alive : lay #[.int .u8 9, .int .u8 9, .int .u8 9, .int .u8 9] (0 + 1) ((le 258 2).map B) = #[.int .u8 9, .int .u8 2, .int .u8 1, .int .u8 9] := by
  have : (le 258 2) = [2, 1] := by decide
  rw [this]; rfl
theorem fits_alive : Fits ((258 : Nat) : Int) ((2 : Nat) : Int) := ⟨by decide, by decide, by decide, fun _ => by decide⟩
theorem put_alive (g : Nat) (w : World) (hb : Bk w g #[.int .u8 9, .int .u8 9, .int .u8 9, .int .u8 9] 5) :
    Calls Try.prog 14 #[.slice (some ⟨g, 0, none⟩) 4 4, .int .i64 1, .int .i64 2, .int .i64 258] w fun e w' => e = .returned (.int .i64 0) ∧ Bk w' g #[.int .u8 9, .int .u8 2, .int .u8 1, .int .u8 9] 5 ∧ Fr (· = g) w w' := by
  have := put_ok g 0 4 4 1 2 258 _ 5 w hb (by decide) (by decide) (by decide) (by decide) (by decide) (by decide) fits_alive
  rw [lay_alive.symm]
  exact this
theorem zero_alive (g : Nat) (w : World) (hb : Bk w g #[.int .u8 0] 5) : Calls Try.prog 28 #[.slice (some ⟨g, 0, none⟩) 1 1] w fun e w' => e = .returned (.bool true) ∧ w = w' :=
  zero_calls _ 1 1 [0] w rfl (Rd.block hb (fun i h => by
    have : i = 0 := by simp at h; omega
    subst this; rfl)) (by decide) (by decide) (by decide)
set_option maxHeartbeats 2000000 in
set_option maxRecDepth 100000 in
theorem alive_calls (w : World) : Calls Try.prog 12 #[] w fun e w' => e = .returned (.bool true) ∧ Fr0 w w' := by
  go_enter Try.func12, Try.ntmps12
  go_wp2_with (first
    | (go_at_call 14; (with_reducible refine (put_alive _ _ (Bk.new _ _)).mono ?_); rintro e w1 ⟨rfl, hb1, hf1⟩; have k0 : w1.cell? ⟨w.heap.size, 0, none⟩ = some (.int .u8 9) := hb1.cell 0; have k1 : w1.cell? ⟨w.heap.size, 1, none⟩ = some (.int .u8 2) := hb1.cell 1; have k2 : w1.cell? ⟨w.heap.size, 2, none⟩ = some (.int .u8 1) := hb1.cell 2; have k3 : w1.cell? ⟨w.heap.size, 3, none⟩ = some (.int .u8 9) := hb1.cell 3)
    | (go_at_call 28; (with_reducible refine (zero_alive _ _ (Bk.new _ _)).mono ?_); rintro e w2 ⟨rfl, rfl⟩))
  go_ret
  exact ⟨rfl, Fr.alloc ((Fr.alloc (Fr.refl _ w) _).then hf1 (fun i hi h => by subst h; omega)) _⟩

theorem takes_both (l : List UInt8) (p wd : Int) : ∃ x e : Int,
    (∀ (a : Option Addr) (n c : Nat) (w : World), l.length = n → Rd w a l → n ≤ c → c ≤ 9223372036854775807 → n ≤ 140737488351232 → Calls Try.prog 26 #[.slice a n c, .int .i64 p, .int .i64 wd] w fun er w' => er = .returned (.tuple #[.int .i64 x, .int .i64 e]) ∧ w = w') ∧
    (∀ (a : Option Addr) (n c : Nat) (w : World), l.length = n → Rd w a l → n ≤ c → c ≤ 9223372036854775807 → n ≤ 140737488351232 → Calls Try.prog 27 #[.slice a n c, .int .i64 p, .int .i64 wd] w fun er w' => er = .returned (.tuple #[.int .i64 x, .int .i64 e]) ∧ w = w') := by
  by_cases h : wd < 1 ∨ 8 < wd ∨ NoRoom l.length p wd
  · exact ⟨0, 1, fun a n c w hl hrd hc hcm hn => WordTake.take_no a n c p wd w hn (hl ▸ h), fun a n c w hl hrd hc hcm hn => RefWord.take_no a n c p wd w hn (hl ▸ h)⟩
  unfold NoRoom at h
  obtain ⟨p, rfl⟩ := Int.eq_ofNat_of_zero_le (show 0 ≤ p by omega)
  obtain ⟨wd, rfl⟩ := Int.eq_ofNat_of_zero_le (show 0 ≤ wd by omega)
  by_cases hs : num ((l.drop p).take wd) < 2 ^ 63
  · refine ⟨(num ((l.drop p).take wd) : Int), 0, fun a n c w hl hrd hc hcm hn => ?_, fun a n c w hl hrd hc hcm hn => ?_⟩
    · obtain ⟨b, o, rfl, -, -⟩ := hrd.form (by omega)
      exact WordTake.take_ok b o n c p wd l w hl hrd hc hcm hn (by omega) (by omega) (by omega) hs
    · obtain ⟨b, o, rfl, -, -⟩ := hrd.form (by omega)
      exact RefWord.take_ok b o n c p wd l w hl hrd hc hcm hn (by omega) (by omega) (by omega) hs
  · refine ⟨0, 15, fun a n c w hl hrd hc hcm hn => ?_, fun a n c w hl hrd hc hcm hn => ?_⟩
    · obtain ⟨b, o, rfl, -, -⟩ := hrd.form (by omega)
      exact WordTake.take_form b o n c p wd l w hl hrd hc hcm hn (by omega) (by omega) (by omega) (by omega)
    · obtain ⟨b, o, rfl, -, -⟩ := hrd.form (by omega)
      exact RefWord.take_form b o n c p wd l w hl hrd hc hcm hn (by omega) (by omega) (by omega) (by omega)
set_option maxHeartbeats 2000000 in
set_option maxRecDepth 100000 in
theorem takes_walk (a : Option Addr) (n c : Nat) (p wd : Int) (l : List UInt8) (w : World) (hl : l.length = n) (hrd : Rd w a l) (hc : n ≤ c) (hcm : c ≤ 9223372036854775807) (hn : n ≤ 140737488351232) :
    Calls Try.prog 6 #[.slice a n c, .int .i64 p, .int .i64 wd] w fun e w' => e = .returned (.bool true) ∧ Fr0 w w' := by
  obtain ⟨x, er, t1, t2⟩ := takes_both l p wd
  have T1 := Lib.hid t1
  have T2 := Lib.hid t2
  have HL := Lib.hid hl
  have HR := Lib.hid hrd
  have e1 : (x == x) = true := by simp
  have e2 : (er == er) = true := by simp
  have e3 : (allZ l == allZ l) = true := by simp
  have e4 : decide (l = l) = true := by simp
  clear t1 t2 hl hrd
  go_enter Try.func6, Try.ntmps6
  go_wp2_with (first
    | (go_at_call 12; (with_reducible refine (alive_calls _).mono ?_); rintro e w1 ⟨rfl, hf1⟩; have HF1 := Lib.hid hf1; clear hf1; have R1 : Hid (Rd w1 a l) := Lib.hid (HR.out.later HF1.out (fun _ _ h => h)))
    | (go_at_call 13; (with_reducible refine (copy_calls a n c l _ HL.out R1.out hn).mono ?_); rintro e w2 ⟨g, cap, cur, rfl, hge, hown, hf2⟩; have HF2 := Lib.hid hf2; have HO := Lib.hid hown; have R2 : Hid (Rd w2 a l) := Lib.hid (R1.out.later hf2 (fun _ _ h => h)); have hcap : n ≤ cap := hown.room; have hcapm : cap ≤ 9223372036854775807 := hown.cap; clear hf2 hown)
    | (go_at_call 26; (with_reducible refine (T1.out _ n cap _ HL.out HO.out.rd hcap hcapm hn).mono ?_); rintro e w3 ⟨rfl, rfl⟩)
    | (go_at_call 27; (with_reducible refine (T2.out a n c _ HL.out R2.out hc hcm hn).mono ?_); rintro e w4 ⟨rfl, rfl⟩)
    | (go_at_call 28; (with_reducible refine (WordTake.zero_calls _ n cap l _ HL.out HO.out.rd hcap hcapm hn).mono ?_); rintro e w5 ⟨rfl, rfl⟩)
    | (go_at_call 29; (with_reducible refine (RefWord.zero_calls a n c l _ HL.out R2.out hn).mono ?_); rintro e w6 ⟨rfl, rfl⟩)
    | (go_at_call 16; (with_reducible refine (same_calls _ a n n cap c l l _ HL.out HO.out.rd HL.out R2.out).mono ?_); rintro e w7 ⟨rfl, rfl⟩))
  go_ret
  exact ⟨by first | rfl | (simp; done), HF1.out.then0 HF2.out⟩

end Go.Proofs.Ytkajbhkhecoccaa.WordLaws
