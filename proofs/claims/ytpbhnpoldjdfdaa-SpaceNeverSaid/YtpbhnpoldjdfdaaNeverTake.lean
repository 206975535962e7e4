/- SpaceNever: what Take answers in a play. -/
import Derived.Test.YtpbhnpoldjdfdaaNeverApp
set_option linter.unusedVariables false
set_option linter.unusedSimpArgs false
namespace Go.Proofs.Ytpbhnpoldjdfdaa.NeverTake
open Go Go.RowKit Go.Proofs.Ytpbhnpoldjdfdaa.K Go.Proofs.Ytpbhnpoldjdfdaa.EqKit Go.Proofs.Ytpbhnpoldjdfdaa.ArrKit Go.Proofs.Ytpbhnpoldjdfdaa.HeldKit Go.Proofs.Ytpbhnpoldjdfdaa.GKit Go.Proofs.Ytpbhnpoldjdfdaa.GRow Go.Proofs.Ytpbhnpoldjdfdaa.SpKit Go.Proofs.Ytpbhnpoldjdfdaa.SpAsk Go.Proofs.Ytpbhnpoldjdfdaa.SpFind Go.Proofs.Ytpbhnpoldjdfdaa.SpNew Go.Proofs.Ytpbhnpoldjdfdaa.SpBecome Go.Proofs.Ytpbhnpoldjdfdaa.SpIdx Go.Proofs.Ytpbhnpoldjdfdaa.SpTake Go.Proofs.Ytpbhnpoldjdfdaa.SpPlaces Go.Proofs.Ytpbhnpoldjdfdaa.SpDrop Go.Proofs.Ytpbhnpoldjdfdaa.SpAlive Go.Proofs.Ytpbhnpoldjdfdaa.SpRow Go.Proofs.Ytpbhnpoldjdfdaa.NeverPlain Go.Proofs.Ytpbhnpoldjdfdaa.NeverKit Go.Proofs.Ytpbhnpoldjdfdaa.NeverApp Go.Proofs.Ytpbhnpoldjdfdaa.PtrKit

def PZ : Array Value := (PC 0 0 PtrAsk.Z).toArray
theorem zero_p (W : World) : (zeroValue 37).run Try.prog W = .ok (.agg PZ) W := by kernel_rfl
theorem PZ_size : PZ.size = 34 := by rw [PZ, List.size_toArray, PC_length, PtrAsk.Z_len]
theorem built2 (a b : Int) : Try.prog.built 37 [(0, .int .i64 a), (1, .int .i64 b)] = some (PC a b PtrAsk.Z).toArray := by kernel_rfl
theorem ptv_size (x : Nat × Option Nat) : (ptv x).toArray.size = 34 := by rw [List.size_toArray, ptv_len]
theorem info_ptv (x : Nat × Option Nat) : (Try.prog.info? 37).map (·.size) = some (ptv x).toArray.size := by rw [PtrAsk.info_p, ptv_size]
theorem info_ptv2 (x : Nat × Option Nat) : (Try.prog.info? 37).map (·.size) = some (ptv x).length := by rw [PtrAsk.info_p, ptv_len]
theorem ptv_all (x : Nat × Option Nat) : (ptv x).toArray.all (·.oneCell') = true := by
  rw [Array.all_eq_true']
  intro v hv
  exact ptv_one x v (by simpa using hv)
/-- a row of pointers: one of them whole -/
theorem RowP.rg {w : World} {base n c b o : Nat} {held : List (Nat × Option Nat)} (h : RowP w base (.slice (some ⟨b, o, none⟩) n c) held) {j : Nat} (hj : j < held.length) : w.rangeAt b (o + j * 34) (ptv held[j]) := by
  obtain ⟨a, cap, e, -, -, hr, -⟩ := h.form
  cases e
  exact RdG.at hr hj
theorem take1_all {w : World} {p g c : Nat} {st : List UInt8} {held : List (Nat × Option Nat)} {kept gone going : List Nat} (I : Inv st held kept gone going) (hs : SAt w p (spS st) g 0 c) :
    (Calls Try.prog 6 #[.pointer (some ⟨p, 0, none⟩), .int .i64 1] w fun e w' => e = .returned (.tuple #[.int .i64 0, .int .i64 0, .int .i64 9]) ∧ Fr0 w w') ∨ ∃ i, st[i]? = some 0 ∧ Calls Try.prog 6 #[.pointer (some ⟨p, 0, none⟩), .int .i64 1] w fun e w' => e = .returned (.tuple #[.int .i64 (sc i : Int), .int .i64 (-1), .int .i64 0]) ∧ Now w w' p (spS (st.set i 2)) := by
  have hok := spS_ok I.len I.low
  by_cases h0 : freeOf (spS st) 0 < 0
  · by_cases h1 : freeOf (spS st) 1 < 0
    · exact .inl (take_no1 p (spS st) g 0 c w hok hs h0 h1)
    · obtain ⟨i, hi⟩ : ∃ i : Nat, freeOf (spS st) 1 = i := ⟨(freeOf (spS st) 1).toNat, by omega⟩
      exact .inr ⟨i, (free_some hok (by omega) hi).2.2, take_one1 p (spS st) g 0 c w hok hs i h0 hi⟩
  · obtain ⟨i, hi⟩ : ∃ i : Nat, freeOf (spS st) 0 = i := ⟨(freeOf (spS st) 0).toNat, by omega⟩
    exact .inr ⟨i, (free_some hok (by omega) hi).2.2, take_one0 p (spS st) g 0 c w hok hs i hi⟩
theorem take2_all {w : World} {p g c : Nat} {st : List UInt8} {held : List (Nat × Option Nat)} {kept gone going : List Nat} (I : Inv st held kept gone going) (hs : SAt w p (spS st) g 0 c) :
    (Calls Try.prog 6 #[.pointer (some ⟨p, 0, none⟩), .int .i64 2] w fun e w' => e = .returned (.tuple #[.int .i64 0, .int .i64 0, .int .i64 9]) ∧ Fr0 w w') ∨ ∃ i j, st[i]? = some 0 ∧ st[j]? = some 0 ∧ i ≠ j ∧ Calls Try.prog 6 #[.pointer (some ⟨p, 0, none⟩), .int .i64 2] w fun e w' => e = .returned (.tuple #[.int .i64 (sc i : Int), .int .i64 (sc j : Int), .int .i64 0]) ∧ Now w w' p (spS ((st.set i 2).set j 2)) := by
  have hok := spS_ok I.len I.low
  by_cases h0 : freeOf (spS st) 0 < 0
  · exact .inl (take_no2 p (spS st) g 0 c w hok hs (.inl h0))
  · by_cases h1 : freeOf (spS st) 1 < 0
    · exact .inl (take_no2 p (spS st) g 0 c w hok hs (.inr h1))
    · obtain ⟨i, hi⟩ : ∃ i : Nat, freeOf (spS st) 0 = i := ⟨(freeOf (spS st) 0).toNat, by omega⟩
      obtain ⟨j, hj⟩ : ∃ j : Nat, freeOf (spS st) 1 = j := ⟨(freeOf (spS st) 1).toNat, by omega⟩
      have f1 := free_some hok (by omega) hi
      have f2 := free_some hok (by omega) hj
      exact .inr ⟨i, j, f1.2.2, f2.2.2, by omega, take_two p (spS st) g 0 c w hok hs i j hi hj⟩
/-- nobody has what was free -/
theorem nobody {st : List UInt8} {held : List (Nat × Option Nat)} {kept gone going : List Nat} (I : Inv st held kept gone going) {i : Nat} (hi : st[i]? = some 0) : (∀ x ∈ held, ((sc x.1 : Int) == (sc i : Int)) = false ∧ ((sc x.1) == (sc i)) = false ∧ (scO x.2 == (sc i : Int)) = false) ∧ (∀ n ∈ gone, ((sc n : Int) == (sc i : Int)) = false ∧ (sc n == sc i) = false) ∧ (∀ n ∈ going, ((sc n : Int) == (sc i : Int)) = false ∧ (sc n == sc i) = false) := by
  obtain ⟨hl, h0⟩ := av_zero hi
  have hf := I.free h0
  have hi12 : i < 12 := by have := I.len; omega
  have key : ∀ n, n < 12 → n ≠ i → ((sc n : Int) == (sc i : Int)) = false ∧ (sc n == sc i) = false := fun n hn hne => by
    have h : sc n ≠ sc i := fun e => hne (sc_inj hn hi12 e)
    refine ⟨?_, by simpa using h⟩
    rw [beq_eq_false_iff_ne]
    omega
  refine ⟨fun x hx => ?_, fun n hn => key n (I.gone n hn).1 (fun e => hf.2.1 (e ▸ hn)), fun n hn => key n (I.going n hn).1 (fun e => hf.2.2.1 (e ▸ hn))⟩
  have hsub : ∀ n ∈ pl x, n < 12 ∧ n ≠ i := fun n hn => by
    have : n ∈ hp held := List.mem_flatMap.2 ⟨x, hx, hn⟩
    exact ⟨((I.iff n).1 this).1, fun e => hf.1 (e ▸ this)⟩
  have h1 := hsub x.1 (by simp [pl])
  have k1 := key x.1 h1.1 h1.2
  refine ⟨k1.1, k1.2, ?_⟩
  cases hx2 : x.2 with
  | none =>
    rw [scO, beq_eq_false_iff_ne]
    omega
  | some j =>
    have h2 := hsub j (by simp [pl, hx2])
    exact (key j h2.1 h2.2).1

end Go.Proofs.Ytpbhnpoldjdfdaa.NeverTake
