/- A number in a slice of numbers: slices.Index, slices.Contains. -/
import Derived.Test.YtpbhnpoldjdfdaaSpNew
import Derived.Test.YtpbhnpoldjdfdaaPtrAsk
set_option linter.unusedVariables false
set_option linter.unusedSimpArgs false
namespace Go.Proofs.Ytpbhnpoldjdfdaa.SpIdx
open Go Go.RowKit Go.Proofs.Ytpbhnpoldjdfdaa.K Go.Proofs.Ytpbhnpoldjdfdaa.EqKit Go.Proofs.Ytpbhnpoldjdfdaa.ArrKit Go.Proofs.Ytpbhnpoldjdfdaa.HeldKit Go.Proofs.Ytpbhnpoldjdfdaa.GKit Go.Proofs.Ytpbhnpoldjdfdaa.GRow Go.Proofs.Ytpbhnpoldjdfdaa.SpKit Go.Proofs.Ytpbhnpoldjdfdaa.SpAsk Go.Proofs.Ytpbhnpoldjdfdaa.SpFind Go.Proofs.Ytpbhnpoldjdfdaa.SpNew

/-- a slice of numbers reads as l -/
def RdI (w : World) (a : Option Addr) (l : List Int) : Prop := RdG (fun x : Int => [Value.int .i64 x]) 1 w a l
theorem RdI.keep {w w1 : World} {a : Option Addr} {l : List Int} (h : RdI w a l) (f : Fr0 w w1) : RdI w1 a l := RdG.keep h f
theorem RdI.cell {w : World} {b o : Nat} {l : List Int} (h : RdI w (some ⟨b, o, none⟩) l) {i : Nat} (hi : i < l.length) : w.cell? ⟨b, o + i, none⟩ = some (.int .i64 l[i]) := by
  have := (RdG.at h hi) 0 (.int .i64 l[i]) rfl
  rwa [Nat.mul_one, Nat.add_zero] at this
set_option maxHeartbeats 2000000 in
set_option maxRecDepth 100000 in
theorem idx_calls (b o c : Nat) (l : List Int) (x : Int) (w : World) (h : RdI w (some ⟨b, o, none⟩) l) (hm : l.length ≤ 9223372036854775807) : Calls Try.prog 23 #[.slice (some ⟨b, o, none⟩) l.length c, .int .i64 x] w fun e w' => ∃ r : Int, e = .returned (.int .i64 r) ∧ -1 ≤ r ∧ (0 ≤ r ↔ x ∈ l) ∧ w' = w := by
  have HR := Lib.hid h
  clear h
  go_enter Try.func23, Try.ntmps23
  go_wp2
  go_loop [8] (fun i => ∃ k : Nat, k ≤ l.length ∧ i = .int .i64 k ∧ x ∉ l.take k) (fun i => l.length - (intOf i).toNat)
  case atStart => exact ⟨0, Nat.zero_le _, rfl, by simp⟩
  case round =>
    obtain ⟨k, hk, rfl, hn⟩ := hrel
    have HN := Lib.hid hn
    clear hn
    by_cases hlt : k < l.length
    · have ck := (HR.out).cell hlt
      have HTK : Hid (l.take (k + 1) = l.take k ++ [l[k]]) := Lib.hid (List.take_succ_eq_append_getElem hlt)
      have HME : Hid (l[k] ∈ l) := Lib.hid (List.getElem_mem hlt)
      generalize l[k] = y at *
      by_cases hxy : x = y
      · subst hxy
        go_wp2
        go_ret
        exact ⟨k, rfl, by omega, ⟨fun _ => HME.out, fun _ => by omega⟩, rfl⟩
      · have hb : (x == y) = false := beq_eq_false_iff_ne.2 hxy
        have HXY := Lib.hid hxy
        clear hxy
        go_wp2
        go_round
        case rel => exact ⟨k + 1, by omega, by go_num, by rw [HTK.out]; intro h; rcases List.mem_append.1 h with h | h; exact HN.out h; exact HXY.out (by simpa using h)⟩
        case measure => simp [intOf]; omega
    · have HE : Hid (l.take k = l) := Lib.hid (List.take_of_length_le (by omega))
      go_wp2
      go_ret
      exact ⟨-1, rfl, by omega, ⟨fun h => by omega, fun h => absurd h (by rw [← HE.out]; exact HN.out)⟩, rfl⟩
set_option maxHeartbeats 2000000 in
set_option maxRecDepth 100000 in
theorem cont_calls (b o c : Nat) (l : List Int) (x : Int) (w : World) (h : RdI w (some ⟨b, o, none⟩) l) (hm : l.length ≤ 9223372036854775807) : Calls Try.prog 13 #[.slice (some ⟨b, o, none⟩) l.length c, .int .i64 x] w fun e w' => e = .returned (.bool (decide (x ∈ l))) ∧ w' = w := by
  have HIX := Lib.hid (idx_calls b o c l x w h hm)
  clear h
  go_enter Try.func13, Try.ntmps13
  go_wp2_with (go_at_call 23; (with_reducible refine HIX.out.mono ?_); rintro e w1 ⟨r, rfl, hr1, hr2, rfl⟩; have HR2 := Lib.hid hr2; clear hr2)
  go_ret
  refine ⟨?_, rfl⟩
  have := HR2.out
  by_cases h0 : 0 ≤ r
  · rw [show decide (x ∈ l) = true from decide_eq_true (this.1 h0), show decide (0 ≤ r) = true from decide_eq_true h0]; rfl
  · rw [show decide (x ∈ l) = false from decide_eq_false (fun h => h0 (this.2 h)), show decide (0 ≤ r) = false from decide_eq_false h0]; rfl

end Go.Proofs.Ytpbhnpoldjdfdaa.SpIdx
