/- A space: its value, whether it is formed, how many are in use. -/
import Derived.Test.YtpbhnpoldjdfdaaGRow
import Derived.Test.YtpbhnpoldjdfdaaEqKit
import Derived.Test.YtpbhnpoldjdfdaaProg
set_option linter.unusedVariables false
set_option linter.unusedSimpArgs false
namespace Go.Proofs.Ytpbhnpoldjdfdaa.SpKit
open Go Go.RowKit Go.Proofs.Ytpbhnpoldjdfdaa.K Go.Proofs.Ytpbhnpoldjdfdaa.EqKit Go.Proofs.Ytpbhnpoldjdfdaa.ArrKit Go.Proofs.Ytpbhnpoldjdfdaa.HeldKit Go.Proofs.Ytpbhnpoldjdfdaa.GKit Go.Proofs.Ytpbhnpoldjdfdaa.GRow

/-- a slice of bytes reads as l -/
def RdU (w : World) (a : Option Addr) (l : List UInt8) : Prop := RdG (fun x : UInt8 => [B x]) 1 w a l
theorem RdU.keep {w w1 : World} {a : Option Addr} {l : List UInt8} (h : RdU w a l) (f : Fr0 w w1) : RdU w1 a l := RdG.keep h f
theorem RdU.cell {w : World} {b o : Nat} {l : List UInt8} (h : RdU w (some ⟨b, o, none⟩) l) {i : Nat} (hi : i < l.length) : w.cell? ⟨b, o + i, none⟩ = some (B l[i]) := by
  have := (RdG.at h hi) 0 (B l[i]) rfl
  rwa [Nat.mul_one, Nat.add_zero] at this
structure Sp where
  a : Nat
  b : Nat
  z : Nat
  st : List UInt8
structure Sp.ok (s : Sp) : Prop where
  z1 : 1 ≤ s.z
  z2 : s.z ≤ 2000
  ab : s.a + s.z ≤ s.b
  top : s.b + s.z ≤ 4096
  len : s.st.length = 2 * s.z
  low : ∀ x ∈ s.st, x.toNat ≤ 4
def SC (a b z : Nat) (v : Value) : Array Value := #[.int .i64 (a : Int), .int .i64 (b : Int), .int .i64 (z : Int), v]
def sval (s : Sp) (g o c : Nat) : Array Value := SC s.a s.b s.z (.slice (some ⟨g, o, none⟩) s.st.length c)
/-- the greatest of the bytes -/
def maxB (l : List UInt8) : Nat := l.foldl (fun m x => max m x.toNat) 0
theorem maxB_snoc (l : List UInt8) (x : UInt8) : maxB (l ++ [x]) = max (maxB l) x.toNat := by simp [maxB]
theorem maxB_le : ∀ (l : List UInt8) (n : Nat), (∀ x ∈ l, x.toNat ≤ n) → maxB l ≤ n := by
  intro l n h
  have : ∀ (l : List UInt8) (m : Nat), m ≤ n → (∀ x ∈ l, x.toNat ≤ n) → l.foldl (fun m x => max m x.toNat) m ≤ n := by
    intro l
    induction l with
    | nil => intro m hm _; exact hm
    | cons y r ih =>
      intro m hm hx
      exact ih _ (Nat.max_le.2 ⟨hm, hx y (List.mem_cons_self ..)⟩) (fun z hz => hx z (List.mem_cons_of_mem _ hz))
  exact this l 0 (Nat.zero_le _) h
theorem maxB_lt (l : List UInt8) : maxB l < 256 := by
  have := maxB_le l 255 (fun x _ => by have := x.toNat_lt; omega)
  omega
set_option maxHeartbeats 2000000 in
set_option maxRecDepth 100000 in
theorem max_calls (b o c : Nat) (l : List UInt8) (w : World) (h : RdU w (some ⟨b, o, none⟩) l) (h0 : 0 < l.length) (hm : l.length ≤ 9223372036854775807) : Calls Try.prog 21 #[.slice (some ⟨b, o, none⟩) l.length c] w fun e w' => e = .returned (.int .u8 (maxB l : Int)) ∧ Fr0 w w' := by
  have HR := Lib.hid h
  have h1 : ¬ l.length < 1 := by omega
  have c0 := h.cell h0
  rw [Nat.add_zero] at c0
  simp only [B] at c0
  have hx0 := l[0].toNat_lt
  have HM0 : Hid (maxB (l.take 1) = l[0].toNat) := Lib.hid (by rw [List.take_succ_eq_append_getElem h0, List.take_zero, List.nil_append]; simp [maxB])
  generalize l[0].toNat = x0 at *
  clear h
  go_enter Try.func21, Try.ntmps21
  go_wp2
  clear c0
  go_loop [3, 4] (fun m i => ∃ k : Nat, 1 ≤ k ∧ k ≤ l.length ∧ i = .int .i64 k ∧ m = .int .u8 (maxB (l.take k) : Int)) (fun _ i => l.length - (intOf i).toNat)
  case atStart => exact ⟨1, Nat.le_refl _, by omega, rfl, by rw [HM0.out]⟩
  case round =>
    obtain ⟨k, hk1, hk, rfl, rfl⟩ := hrel
    have hmb := maxB_lt (l.take k)
    by_cases hlt : k < l.length
    · have ck := (HR.out).cell hlt
      simp only [B] at ck
      have HMK : Hid (maxB (l.take (k + 1)) = max (maxB (l.take k)) l[k].toNat) := Lib.hid (by rw [List.take_succ_eq_append_getElem hlt, maxB_snoc])
      have hx := l[k].toNat_lt
      generalize l[k].toNat = x at *
      generalize maxB (l.take k) = m at *
      have hmm : (if m < x then (x : Int) else (m : Int)) = ((max m x : Nat) : Int) := by split <;> omega
      go_wp2
      go_round
      case rel => exact ⟨k + 1, by omega, by omega, by go_num, by rw [HMK.out]⟩
      case measure => simp [intOf]; omega
    · obtain rfl : k = l.length := by omega
      rw [List.take_length] at *
      go_wp2
      go_ret
      exact ⟨rfl, Fr.refl _ _⟩
def usedB (x : UInt8) : Bool := x.toNat == 1 || x.toNat == 2
set_option maxHeartbeats 2000000 in
set_option maxRecDepth 100000 in
theorem used_calls (x : UInt8) (w : World) : Calls Try.prog 19 #[.int .u8 (x.toNat : Int)] w fun e w' => e = .returned (.bool (usedB x)) ∧ w' = w := by
  unfold usedB
  generalize x.toNat = n at *
  by_cases h1 : n = 1
  · subst h1
    go_enter Try.func19, Try.ntmps19
    go_wp2
    go_ret
    exact ⟨rfl, rfl⟩
  · have e1 : (n == 1) = false := by simp [h1]
    have e2 : ((n : Int) == 1) = false := by simp; omega
    rw [e1, Bool.false_or]
    by_cases h2 : n = 2
    · subst h2
      go_enter Try.func19, Try.ntmps19
      go_wp2
      go_ret
      exact ⟨rfl, rfl⟩
    · have e3 : (n == 2) = false := by simp [h2]
      have e4 : ((n : Int) == 2) = false := by simp; omega
      rw [e3]
      go_enter Try.func19, Try.ntmps19
      go_wp2
      go_ret
      exact ⟨rfl, rfl⟩
set_option maxHeartbeats 2000000 in
set_option maxRecDepth 100000 in
theorem formed_calls (s : Sp) (g o c : Nat) (w : World) (hok : s.ok) (h : RdU w (some ⟨g, o, none⟩) s.st) : Calls Try.prog 11 #[.agg (sval s g o c)] w fun e w' => e = .returned (.bool true) ∧ Fr0 w w' := by
  obtain ⟨h1, h2, h3, h4, h5, h6⟩ := hok
  have HMX : Hid (∀ W, Fr0 w W → Calls Try.prog 21 #[.slice (some ⟨g, o, none⟩) s.st.length c] W fun e w' => e = .returned (.int .u8 (maxB s.st : Int)) ∧ Fr0 W w') := Lib.hid (fun W f => max_calls g o c s.st W (h.keep f) (by omega) (by omega))
  have hm4 : maxB s.st ≤ 4 := maxB_le _ _ h6
  obtain ⟨a, b, z, st⟩ := s
  simp only [sval] at *
  generalize maxB st = m at *
  have hm : (m : Int) ≤ 4 := by omega
  clear h h6
  generalize st.length = n at *
  subst h5
  have HX0 : Hid (Bk (w.alloc (.cells (SC a b z (.slice (some ⟨g, o, none⟩) (2 * z) c)) 26)) w.heap.size (SC a b z (.slice (some ⟨g, o, none⟩) (2 * z) c)) 26) := Lib.hid (Bk.new w _)
  have HF0 : Hid (Fr0 w (w.alloc (.cells (SC a b z (.slice (some ⟨g, o, none⟩) (2 * z) c)) 26))) := Lib.hid (Fr.alloc (Fr.refl _ _) _)
  have c0 : (w.alloc (.cells (SC a b z (.slice (some ⟨g, o, none⟩) (2 * z) c)) 26)).cell? ⟨w.heap.size, 0, none⟩ = some (.int .i64 (a : Int)) := Bk.cell HX0.out 0
  have c1 : (w.alloc (.cells (SC a b z (.slice (some ⟨g, o, none⟩) (2 * z) c)) 26)).cell? ⟨w.heap.size, 1, none⟩ = some (.int .i64 (b : Int)) := Bk.cell HX0.out 1
  have c2 : (w.alloc (.cells (SC a b z (.slice (some ⟨g, o, none⟩) (2 * z) c)) 26)).cell? ⟨w.heap.size, 2, none⟩ = some (.int .i64 (z : Int)) := Bk.cell HX0.out 2
  have c3 : (w.alloc (.cells (SC a b z (.slice (some ⟨g, o, none⟩) (2 * z) c)) 26)).cell? ⟨w.heap.size, 3, none⟩ = some (.slice (some ⟨g, o, none⟩) (2 * z) c) := Bk.cell HX0.out 3
  go_enter Try.func11, Try.ntmps11
  go_wp2_with (go_at_call 21; (with_reducible refine (HMX.out _ HF0.out).mono ?_); rintro e w1 ⟨rfl, hf1⟩; have HF1 := Lib.hid (HF0.out.then0 hf1); clear hf1)
  go_ret
  exact ⟨rfl, HF1.out⟩

end Go.Proofs.Ytpbhnpoldjdfdaa.SpKit
