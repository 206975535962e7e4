/- A sector taken, or two: the walk of Take. -/
import Derived.Test.YtpbhnpoldjdfdaaSpBecome
import Derived.Test.YtpbhnpoldjdfdaaSpIdx
set_option linter.unusedVariables false
set_option linter.unusedSimpArgs false
namespace Go.Proofs.Ytpbhnpoldjdfdaa.SpTake
open Go Go.RowKit Go.Proofs.Ytpbhnpoldjdfdaa.K Go.Proofs.Ytpbhnpoldjdfdaa.EqKit Go.Proofs.Ytpbhnpoldjdfdaa.ArrKit Go.Proofs.Ytpbhnpoldjdfdaa.HeldKit Go.Proofs.Ytpbhnpoldjdfdaa.GKit Go.Proofs.Ytpbhnpoldjdfdaa.GRow Go.Proofs.Ytpbhnpoldjdfdaa.SpKit Go.Proofs.Ytpbhnpoldjdfdaa.SpAsk Go.Proofs.Ytpbhnpoldjdfdaa.SpFind Go.Proofs.Ytpbhnpoldjdfdaa.SpNew Go.Proofs.Ytpbhnpoldjdfdaa.SpBecome Go.Proofs.Ytpbhnpoldjdfdaa.SpIdx

theorem free_some {s : Sp} (hok : s.ok) {r i : Nat} (hr : r < 2) (h : freeOf s r = (i : Int)) : r * s.z ≤ i ∧ i < r * s.z + s.z ∧ s.st[i]? = some 0 := by
  unfold freeOf at h
  have hge := Lib.indexByte_ge ((s.st.drop (r * s.z)).take s.z) 0
  split at h
  · omega
  · obtain ⟨k, hk⟩ : ∃ k : Nat, Lib.indexByte ((s.st.drop (r * s.z)).take s.z) 0 = k := ⟨(Lib.indexByte ((s.st.drop (r * s.z)).take s.z) 0).toNat, by omega⟩
    have h2 := (Lib.indexByte_some hk).1
    rw [List.getElem?_take] at h2
    split at h2
    · rw [List.getElem?_drop] at h2
      obtain rfl : i = r * s.z + k := by omega
      exact ⟨by omega, by omega, h2⟩
    · cases h2
theorem free_none {s : Sp} {r : Nat} (h : freeOf s r < 0) : freeOf s r = -1 := by
  unfold freeOf at h ⊢
  have hge := Lib.indexByte_ge ((s.st.drop (r * s.z)).take s.z) 0
  split at h
  · rw [if_pos (by omega)]; omega
  · omega
def S4 (s : Sp) (st : List UInt8) : Sp := ⟨s.a, s.b, s.z, st⟩

set_option maxHeartbeats 4000000 in
set_option maxRecDepth 100000 in
theorem take_no2 (p : Nat) (s : Sp) (g o c : Nat) (w : World) (hok : s.ok) (h : SAt w p s g o c) (hno : freeOf s 0 < 0 ∨ freeOf s 1 < 0) : Calls Try.prog 6 #[.pointer (some ⟨p, 0, none⟩), .int .i64 2] w fun e w' => e = .returned (.tuple #[.int .i64 0, .int .i64 0, .int .i64 9]) ∧ Fr0 w w' := by
  have hpw := Bk.lt h.blk
  have HFO : Hid (∀ W, Fr0 w W → Calls Try.prog 11 #[.agg (sval s g o c)] W fun e w' => e = .returned (.bool true) ∧ Fr0 W w') := Lib.hid (fun W f => formed_calls s g o c W hok (h.rd.keep f))
  have HCL : Hid (∀ W, Fr0 w W → Calls Try.prog 14 #[.slice (some ⟨g, o, none⟩) s.st.length c] W fun e w' => ∃ g1 c1 cur, e = .returned (.slice (some ⟨g1, 0, none⟩) s.st.length c1) ∧ W.heap.size ≤ g1 ∧ OwnU w' g1 c1 cur s.st ∧ Fr0 W w') := Lib.hid (fun W f => clone_calls g o c s.st W (h.rd.keep f) (by have := hok.len; have := hok.z2; omega))
  have HI : Hid ((Try.prog.info? 26).map (·.size) = some (sval s g o c).size) := Lib.hid (by kernel_rfl)
  have HF0_ : Hid (∀ W, Fr0 w W → Calls Try.prog 12 #[.pointer (some ⟨p, 0, none⟩), .int .i64 0] W fun e w' => e = .returned (.int .i64 (freeOf s 0)) ∧ Fr0 W w') := Lib.hid (fun W f => find0_calls p s g o c W hok (h.keep f))
  have HF1_ : Hid (∀ W, Fr0 w W → Calls Try.prog 12 #[.pointer (some ⟨p, 0, none⟩), .int .i64 1] W fun e w' => e = .returned (.int .i64 (freeOf s 1)) ∧ Fr0 W w') := Lib.hid (fun W f => find1_calls p s g o c W hok (h.keep f))
  have HB := Lib.hid h.blk
  have hin : (-1 : Int) ∈ [freeOf s 0, freeOf s 1] := by
    rcases hno with h | h
    · rw [free_none h]; simp
    · rw [free_none h]; simp
  have HCO : Hid (∀ W g1 c1, RdI W (some ⟨g1, 0, none⟩) [freeOf s 0, freeOf s 1] → Calls Try.prog 13 #[.slice (some ⟨g1, 0, none⟩) 2 c1, .int .i64 (-1)] W fun e w' => e = .returned (.bool true) ∧ w' = W) := Lib.hid (fun W g1 c1 hr => by
    have := cont_calls g1 0 c1 [freeOf s 0, freeOf s 1] (-1) W hr (by simp)
    rwa [decide_eq_true hin] at this)
  generalize freeOf s 0 = x0 at *
  generalize freeOf s 1 = x1 at *
  clear h hok hno hin
  have HXA : Hid (∀ W : World, RdI (W.alloc (.cells #[.int .i64 x0, .int .i64 x1] 3)) (some ⟨W.heap.size, 0, none⟩) [x0, x1]) := Lib.hid (fun W => RdG.of fun i hi j u hj => by
    have hj0 : j = 0 := by
      have := (List.getElem?_eq_some_iff.1 hj).1
      simp only [List.length_cons, List.length_nil] at this
      omega
    subst hj0
    simp only [List.length_cons, List.length_nil] at hi
    rw [Bk.cell (Bk.new W _), ← hj]
    rcases (show i = 0 ∨ i = 1 by omega) with rfl | rfl <;> rfl)
  go_enter Try.func6, Try.ntmps6
  go_wp2_with (first | ((with_reducible show wpList _ _ _ ({ dst := _, op := Op.load 26 _, type := _, pos := _, after := _, guard := _ } :: _) _ _); refine wpList_load_row_g (by rfl) 26 _ rfl p rfl 26 _ (0, 0) _ HB.out Try.underlying26 rfl HI.out ?_) | (go_at_call 11; (with_reducible refine (HFO.out _ (Fr.refl _ _)).mono ?_); rintro e w1 ⟨rfl, hf1⟩; have HF1 := Lib.hid hf1; clear hf1) | (go_at_call 12; (with_reducible refine (HF0_.out _ HF1.out).mono ?_); rintro e w2 ⟨rfl, hf2⟩; have HF2 := Lib.hid (HF1.out.then0 hf2); clear hf2) | (go_at_call 12; (with_reducible refine (HF1_.out _ HF2.out).mono ?_); rintro e w3 ⟨rfl, hf3⟩; have HF3 := Lib.hid (HF2.out.then0 hf3); clear hf3) | (go_at_call 13; (with_reducible refine (HCO.out _ _ _ (HXA.out _)).mono ?_); rintro e w4 ⟨rfl, rfl⟩))
  go_ret3
  exact ⟨rfl, Fr.alloc HF3.out _⟩

set_option maxHeartbeats 4000000 in
set_option maxRecDepth 100000 in
theorem take_no1 (p : Nat) (s : Sp) (g o c : Nat) (w : World) (hok : s.ok) (h : SAt w p s g o c) (hn0 : freeOf s 0 < 0) (hn1 : freeOf s 1 < 0) : Calls Try.prog 6 #[.pointer (some ⟨p, 0, none⟩), .int .i64 1] w fun e w' => e = .returned (.tuple #[.int .i64 0, .int .i64 0, .int .i64 9]) ∧ Fr0 w w' := by
  have hpw := Bk.lt h.blk
  have HFO : Hid (∀ W, Fr0 w W → Calls Try.prog 11 #[.agg (sval s g o c)] W fun e w' => e = .returned (.bool true) ∧ Fr0 W w') := Lib.hid (fun W f => formed_calls s g o c W hok (h.rd.keep f))
  have HCL : Hid (∀ W, Fr0 w W → Calls Try.prog 14 #[.slice (some ⟨g, o, none⟩) s.st.length c] W fun e w' => ∃ g1 c1 cur, e = .returned (.slice (some ⟨g1, 0, none⟩) s.st.length c1) ∧ W.heap.size ≤ g1 ∧ OwnU w' g1 c1 cur s.st ∧ Fr0 W w') := Lib.hid (fun W f => clone_calls g o c s.st W (h.rd.keep f) (by have := hok.len; have := hok.z2; omega))
  have HI : Hid ((Try.prog.info? 26).map (·.size) = some (sval s g o c).size) := Lib.hid (by kernel_rfl)
  have HF0_ : Hid (∀ W, Fr0 w W → Calls Try.prog 12 #[.pointer (some ⟨p, 0, none⟩), .int .i64 0] W fun e w' => e = .returned (.int .i64 (freeOf s 0)) ∧ Fr0 W w') := Lib.hid (fun W f => find0_calls p s g o c W hok (h.keep f))
  have HF1_ : Hid (∀ W, Fr0 w W → Calls Try.prog 12 #[.pointer (some ⟨p, 0, none⟩), .int .i64 1] W fun e w' => e = .returned (.int .i64 (freeOf s 1)) ∧ Fr0 W w') := Lib.hid (fun W f => find1_calls p s g o c W hok (h.keep f))
  have HB := Lib.hid h.blk
  rw [free_none hn0] at HF0_
  rw [free_none hn1] at HF1_
  have HCO : Hid (∀ W g1 c1, RdI W (some ⟨g1, 0, none⟩) [-1] → Calls Try.prog 13 #[.slice (some ⟨g1, 0, none⟩) 1 c1, .int .i64 (-1)] W fun e w' => e = .returned (.bool true) ∧ w' = W) := Lib.hid (fun W g1 c1 hr => by
    have := cont_calls g1 0 c1 [-1] (-1) W hr (by simp)
    rwa [decide_eq_true (by simp)] at this)
  clear h hok hn0 hn1
  have HXA : Hid (∀ W : World, RdI (W.alloc (.cells #[.int .i64 (-1)] 3)) (some ⟨W.heap.size, 0, none⟩) [(-1)]) := Lib.hid (fun W => RdG.of fun i_ hi_ j_ u hj => by
    have hj0 : j_ = 0 := by
      have := (List.getElem?_eq_some_iff.1 hj).1
      simp only [List.length_cons, List.length_nil] at this
      omega
    subst hj0
    simp only [List.length_cons, List.length_nil] at hi_
    rw [Bk.cell (Bk.new W _), ← hj]
    rcases (show i_ = 0 by omega) with rfl <;> rfl)
  go_enter Try.func6, Try.ntmps6
  go_wp2_with (first | ((with_reducible show wpList _ _ _ ({ dst := _, op := Op.load 26 _, type := _, pos := _, after := _, guard := _ } :: _) _ _); refine wpList_load_row_g (by rfl) 26 _ rfl p rfl 26 _ (0, 0) _ HB.out Try.underlying26 rfl HI.out ?_) | (go_at_call 11; (with_reducible refine (HFO.out _ (Fr.refl _ _)).mono ?_); rintro e w1 ⟨rfl, hf1⟩; have HF1 := Lib.hid hf1; clear hf1) | (go_at_call 12; (with_reducible refine (HF0_.out _ HF1.out).mono ?_); rintro e w2 ⟨rfl, hf2⟩; have HF2 := Lib.hid (HF1.out.then0 hf2); clear hf2) | (go_at_call 12; (with_reducible refine (HF1_.out _ HF2.out).mono ?_); rintro e w3 ⟨rfl, hf3⟩; have HF3 := Lib.hid (HF2.out.then0 hf3); clear hf3) | (go_at_call 13; (with_reducible refine (HCO.out _ _ _ (HXA.out _)).mono ?_); rintro e w4 ⟨rfl, rfl⟩))
  go_ret3
  exact ⟨rfl, Fr.alloc HF3.out _⟩

set_option maxHeartbeats 4000000 in
set_option maxRecDepth 100000 in
theorem take_one0 (p : Nat) (s : Sp) (g o c : Nat) (w : World) (hok : s.ok) (h : SAt w p s g o c) (i : Nat) (hi : freeOf s 0 = (i : Int)) : Calls Try.prog 6 #[.pointer (some ⟨p, 0, none⟩), .int .i64 1] w fun e w' => e = .returned (.tuple #[.int .i64 (SpAsk.Sp.sec s i : Int), .int .i64 (-1), .int .i64 0]) ∧ Now w w' p (S4 s (s.st.set i 2)) := by
  have hpw := Bk.lt h.blk
  have HFO : Hid (∀ W, Fr0 w W → Calls Try.prog 11 #[.agg (sval s g o c)] W fun e w' => e = .returned (.bool true) ∧ Fr0 W w') := Lib.hid (fun W f => formed_calls s g o c W hok (h.rd.keep f))
  have HCL : Hid (∀ W, Fr0 w W → Calls Try.prog 14 #[.slice (some ⟨g, o, none⟩) s.st.length c] W fun e w' => ∃ g1 c1 cur, e = .returned (.slice (some ⟨g1, 0, none⟩) s.st.length c1) ∧ W.heap.size ≤ g1 ∧ OwnU w' g1 c1 cur s.st ∧ Fr0 W w') := Lib.hid (fun W f => clone_calls g o c s.st W (h.rd.keep f) (by have := hok.len; have := hok.z2; omega))
  have HI : Hid ((Try.prog.info? 26).map (·.size) = some (sval s g o c).size) := Lib.hid (by kernel_rfl)
  have HF0_ : Hid (∀ W, Fr0 w W → Calls Try.prog 12 #[.pointer (some ⟨p, 0, none⟩), .int .i64 0] W fun e w' => e = .returned (.int .i64 (freeOf s 0)) ∧ Fr0 W w') := Lib.hid (fun W f => find0_calls p s g o c W hok (h.keep f))
  have HF1_ : Hid (∀ W, Fr0 w W → Calls Try.prog 12 #[.pointer (some ⟨p, 0, none⟩), .int .i64 1] W fun e w' => e = .returned (.int .i64 (freeOf s 1)) ∧ Fr0 W w') := Lib.hid (fun W f => find1_calls p s g o c W hok (h.keep f))
  have HB := Lib.hid h.blk
  have hfs := free_some hok (by omega) hi
  have hi0 : i < 2 * s.z := by have := hfs.2.1; omega
  rw [hi] at HF0_
  clear hfs hi
  have HCO : Hid (∀ W g1 c1, RdI W (some ⟨g1, 0, none⟩) [(i : Int)] → Calls Try.prog 13 #[.slice (some ⟨g1, 0, none⟩) 1 c1, .int .i64 (-1)] W fun e w' => e = .returned (.bool false) ∧ w' = W) := Lib.hid (fun W g1 c1 hr => by
    have := cont_calls g1 0 c1 [(i : Int)] (-1) W hr (by simp)
    rwa [decide_eq_false (by simp; try omega)] at this)
  have HXA : Hid (∀ W : World, RdI (W.alloc (.cells #[.int .i64 (i : Int)] 3)) (some ⟨W.heap.size, 0, none⟩) [(i : Int)]) := Lib.hid (fun W => RdG.of fun i_ hi_ j_ u hj => by
    have hj0 : j_ = 0 := by
      have := (List.getElem?_eq_some_iff.1 hj).1
      simp only [List.length_cons, List.length_nil] at this
      omega
    subst hj0
    simp only [List.length_cons, List.length_nil] at hi_
    rw [Bk.cell (Bk.new W _), ← hj]
    rcases (show i_ = 0 by omega) with rfl <;> rfl)
  have HSE0 : Hid (∀ c' W g', Bk W p (SC s.a s.b s.z (.slice (some ⟨g', 0, none⟩) (2 * s.z) c')) 26 → Calls Try.prog 15 #[.pointer (some ⟨p, 0, none⟩), .int .i64 (i : Int)] W fun e w' => e = .returned (.int .i64 (SpAsk.Sp.sec s i : Int)) ∧ Fr0 W w') := Lib.hid (fun c' W g' hb => sector_calls p s.a s.b s.z i _ W hok.z1 hok.z2 hok.ab hok.top hi0 hb)
  generalize SpAsk.Sp.sec s i = q0 at *
  have HLN := Lib.hid hok.len
  have hz1 := hok.z1
  have hz2 := hok.z2
  have hab := hok.ab
  have htop := hok.top
  clear h hok
  obtain ⟨a, b, z, st⟩ := s
  simp only [sval, S4] at *
  rw [HLN.out] at HB HFO HCL HI
  go_enter Try.func6, Try.ntmps6
  go_wp2_with (first | ((with_reducible show wpList _ _ _ ({ dst := _, op := Op.load 26 _, type := _, pos := _, after := _, guard := _ } :: _) _ _); refine wpList_load_row_g (by rfl) 26 _ rfl p rfl 26 _ (0, 0) _ HB.out Try.underlying26 rfl HI.out ?_) | (go_at_call 11; (with_reducible refine (HFO.out _ (Fr.refl _ _)).mono ?_); rintro e w1 ⟨rfl, hf1⟩; have HF1 := Lib.hid hf1; clear hf1) | (go_at_call 12; (with_reducible refine (HF0_.out _ HF1.out).mono ?_); rintro e w2 ⟨rfl, hf2⟩; have HF2 := Lib.hid (HF1.out.then0 hf2); clear hf2) | (go_at_call 12; (with_reducible refine (HF1_.out _ HF2.out).mono ?_); rintro e w3 ⟨rfl, hf3⟩; have HF3 := Lib.hid (HF2.out.then0 hf3); have HF4 : Hid (Fr0 w (w3.alloc (.cells #[.int .i64 (i : Int)] 3))) := Lib.hid (Fr.alloc HF3.out _); have HB4 : Hid (Bk (w3.alloc (.cells #[.int .i64 (i : Int)] 3)) p (SC a b z (.slice (some ⟨g, o, none⟩) (2 * z) c)) 26) := Lib.hid (HF4.out.keep HB.out (fun h => h)); have HK4 : Hid (Bk (w3.alloc (.cells #[.int .i64 (i : Int)] 3)) w3.heap.size #[.int .i64 (i : Int)] 3) := Lib.hid (Bk.new w3 _); have d3 : (w3.alloc (.cells #[.int .i64 (i : Int)] 3)).cell? ⟨p, 3, none⟩ = some (.slice (some ⟨g, o, none⟩) (2 * z) c) := Bk.cell HB4.out 3; have HW3 := Lib.hid HF3.out.size; clear hf3) | (go_at_call 13; (with_reducible refine (HCO.out _ _ _ (HXA.out _)).mono ?_); rintro e w4 ⟨rfl, rfl⟩) | (go_at_call 14; (with_reducible refine (HCL.out _ HF4.out).mono ?_); rintro e w5 ⟨g1, c1, cur, rfl, hg1, ho1, hf5⟩; have HG1 := Lib.hid hg1; have HO5 := Lib.hid ho1; have HFR5 := Lib.hid (HF4.out.then0 hf5); have HB5 := Lib.hid (hf5.keep HB4.out (fun h => h)); have HK5 := Lib.hid (hf5.keep HK4.out (fun h => h)); have e3 : w5.cell? ⟨p, 3, none⟩ = some (.slice (some ⟨g, o, none⟩) (2 * z) c) := Bk.cell HB5.out 3; have f3 := Bk.free HB5.out 3; clear hg1 ho1 hf5))
  have hk3 := Bk.lt HK4.out
  have hg1 := HG1.out
  have hw3 := HW3.out
  have hs4 : (w3.alloc (.cells #[.int .i64 (i : Int)] 3)).heap.size = w3.heap.size + 1 := by simp
  have hpk := Bk.lt HB4.out
  have hg5 := Bk.lt HO5.out.blk
  have hp3 : p < w3.heap.size := by omega
  have hgp : g1 ≠ p := by omega
  have hgk : g1 ≠ w3.heap.size := by omega
  have hwg : w.heap.size ≤ g1 := by omega
  have hwG : w.heap.size ≤ w5.heap.size := by omega
  have hms : (w5.setCell ⟨p, 3, none⟩ (.slice (some ⟨g1, 0, none⟩) (2 * z) c1)).heap.size = w5.heap.size := by simp [World.setCell]
  have HO6 : Hid (OwnU ((w5.setCell ⟨p, 3, none⟩ (.slice (some ⟨g1, 0, none⟩) (2 * z) c1)).alloc (.cells #[.int .i64 (-1), .int .i64 (-1)] 24)) g1 c1 cur st) := Lib.hid (OwnG.keep (OwnG.keep HO5.out (Fr.set1 w5 p 3 (.slice (some ⟨g1, 0, none⟩) (2 * z) c1)) hgp) (Fr.alloc (Fr.refl (fun _ => False) _) _) (fun h => h))
  have HB6 : Hid (Bk ((w5.setCell ⟨p, 3, none⟩ (.slice (some ⟨g1, 0, none⟩) (2 * z) c1)).alloc (.cells #[.int .i64 (-1), .int .i64 (-1)] 24)) p (SC a b z (.slice (some ⟨g1, 0, none⟩) (2 * z) c1)) 26) := Lib.hid (Bk.alloc (Bk.set HB5.out 3 (.slice (some ⟨g1, 0, none⟩) (2 * z) c1)) _)
  have HK6 : Hid (Bk ((w5.setCell ⟨p, 3, none⟩ (.slice (some ⟨g1, 0, none⟩) (2 * z) c1)).alloc (.cells #[.int .i64 (-1), .int .i64 (-1)] 24)) w3.heap.size #[.int .i64 (i : Int)] 3) := Lib.hid (Bk.alloc (Bk.setOther HK5.out _ _ (by show w3.heap.size ≠ p; omega)) _)
  have HG6 : Hid (Bk ((w5.setCell ⟨p, 3, none⟩ (.slice (some ⟨g1, 0, none⟩) (2 * z) c1)).alloc (.cells #[.int .i64 (-1), .int .i64 (-1)] 24)) w5.heap.size #[.int .i64 (-1), .int .i64 (-1)] 24) := Lib.hid (by have := Bk.new (w5.setCell ⟨p, 3, none⟩ (.slice (some ⟨g1, 0, none⟩) (2 * z) c1)) (.cells #[.int .i64 (-1), .int .i64 (-1)] 24); rwa [hms] at this)
  have HFR6 : Hid (Fr (fun i => i = p) w ((w5.setCell ⟨p, 3, none⟩ (.slice (some ⟨g1, 0, none⟩) (2 * z) c1)).alloc (.cells #[.int .i64 (-1), .int .i64 (-1)] 24))) := Lib.hid (Fr.alloc (Fr.set (HFR5.out.weaken (S' := fun i => i = p) (fun _ _ h => h.elim)) (⟨p, 3, none⟩ : Addr) _ (.inr rfl)) _)
  have hGk : w3.heap.size < w5.heap.size := Bk.lt HK5.out
  clear hs4 hms d3 e3 f3 HB4 HK4 HO5 HB5 HK5 HFR5 HF4 HF3 HF2 HF1 HFO HCL HI HF0_ HF1_ HB HCO HXA HG1 HW3 hk3 hg1 hw3 hpk
  generalize ((w5.setCell ⟨p, 3, none⟩ (.slice (some ⟨g1, 0, none⟩) (2 * z) c1)).alloc (.cells #[.int .i64 (-1), .int .i64 (-1)] 24)) = y0 at *
  generalize w5.heap.size = gg at *
  generalize w3.heap.size = tk at *
  refine wp_loop_rounds 2 ?_
  have hx0 : i < (st).length := by have := HLN.out; omega
  have ca : y0.cell? ⟨p, 3, none⟩ = some (.slice (some ⟨g1, 0, none⟩) (2 * z) c1) := Bk.cell HB6.out 3
  have cb : y0.cell? ⟨tk, 0, none⟩ = some (.int .i64 (i : Int)) := Bk.cell HK6.out 0
  obtain ⟨cv, cc⟩ : ∃ cv : Value, y0.cell? ⟨g1, i, none⟩ = some cv := ⟨_, by have := RdU.cell HO6.out.rd hx0; rwa [Nat.zero_add] at this⟩
  have ff := Bk.free HO6.out.blk i
  have HBs : Hid (Bk (y0.setCell ⟨g1, i, none⟩ (.int .u8 2)) p (SC a b z (.slice (some ⟨g1, 0, none⟩) (2 * z) c1)) 26) := Lib.hid (Bk.setOther HB6.out _ _ (by show p ≠ g1; omega))
  have HOs : Hid (OwnU (y0.setCell ⟨g1, i, none⟩ (.int .u8 2)) g1 c1 (cur.setIfInBounds i (B 2)) (st.set i 2)) := Lib.hid (OwnU.set1 HO6.out hx0 2)
  have HKs : Hid (Bk (y0.setCell ⟨g1, i, none⟩ (.int .u8 2)) tk #[.int .i64 (i : Int)] 3) := Lib.hid (Bk.setOther HK6.out _ _ (by show tk ≠ g1; omega))
  have HGs : Hid (Bk (y0.setCell ⟨g1, i, none⟩ (.int .u8 2)) gg #[.int .i64 (-1), .int .i64 (-1)] 24) := Lib.hid (Bk.setOther HG6.out _ _ (by show gg ≠ g1; omega))
  have HFs : Hid (Fr (fun i => i = p) w (y0.setCell ⟨g1, i, none⟩ (.int .u8 2))) := Lib.hid (Fr.set HFR6.out _ _ (.inl (by show w.heap.size ≤ g1; omega)))
  clear hx0 HO6 HB6 HK6 HG6 HFR6
  rw [rounds_succ]
  go_wp2_with (go_at_call 15; (with_reducible refine (HSE0.out _ _ _ HBs.out).mono ?_); rintro e v0 ⟨rfl, hfv⟩; have HOt := Lib.hid (OwnG.keep HOs.out hfv (fun h => h)); have HBt := Lib.hid (hfv.keep HBs.out (fun h => h)); have HKt := Lib.hid (hfv.keep HKs.out (fun h => h)); have HGt := Lib.hid (hfv.keep HGs.out (fun h => h)); have HFt := Lib.hid (HFs.out.then0 hfv); have cg : v0.cell? ⟨gg, 0, none⟩ = some (.int .i64 (-1)) := Bk.cell HGt.out 0; have fg := Bk.free HGt.out 0; clear hfv ca cb cc ff)
  clear cg fg
  have HOu0 : Hid (OwnU (v0.setCell ⟨gg, 0, none⟩ (.int .i64 (q0 : Int))) g1 c1 (cur.setIfInBounds i (B 2)) (st.set i 2)) := Lib.hid (OwnG.keep HOt.out (Fr.set1 _ _ _ _) (by omega))
  have HBu0 : Hid (Bk (v0.setCell ⟨gg, 0, none⟩ (.int .i64 (q0 : Int))) p (SC a b z (.slice (some ⟨g1, 0, none⟩) (2 * z) c1)) 26) := Lib.hid (Bk.setOther HBt.out _ _ (by show p ≠ gg; omega))
  have HKu0 : Hid (Bk (v0.setCell ⟨gg, 0, none⟩ (.int .i64 (q0 : Int))) tk #[.int .i64 (i : Int)] 3) := Lib.hid (Bk.setOther HKt.out _ _ (by show tk ≠ gg; omega))
  have HGu0 : Hid (Bk (v0.setCell ⟨gg, 0, none⟩ (.int .i64 (q0 : Int))) gg #[.int .i64 (q0 : Int), .int .i64 (-1)] 24) := Lib.hid (Bk.set HGt.out 0 _)
  have HFu0 : Hid (Fr (fun i => i = p) w (v0.setCell ⟨gg, 0, none⟩ (.int .i64 (q0 : Int)))) := Lib.hid (Fr.set HFt.out _ _ (.inl (by show w.heap.size ≤ gg; omega)))
  clear HOs HBs HKs HGs HFs HOt HBt HKt HGt HFt
  generalize (v0.setCell ⟨gg, 0, none⟩ (.int .i64 (q0 : Int))) = y1 at *
  have da : y1.cell? ⟨gg, 0, none⟩ = some (.int .i64 (q0 : Int)) := Bk.cell HGu0.out 0
  have db : y1.cell? ⟨gg, 1, none⟩ = some (.int .i64 (-1)) := Bk.cell HGu0.out 1
  rw [rounds_succ]
  go_wp2
  go_quiet (fail)
  go_wp2
  go_ret3
  have hcap := HOu0.out.room
  have hmax := HOu0.out.max
  refine ⟨rfl, ⟨g1, c1, hwg, ?_, (HOu0.out.rd).keep (Fr.drewN (Fr.refl _ _) nq), hcap, hmax⟩, Fr.drewN HFu0.out nq⟩
  have := HBu0.out
  show Bk _ p (SC a b z (.slice (some ⟨g1, 0, none⟩) ((st.set i 2)).length c1)) 26
  rw [List.length_set, HLN.out]
  exact this

set_option maxHeartbeats 4000000 in
set_option maxRecDepth 100000 in
theorem take_one1 (p : Nat) (s : Sp) (g o c : Nat) (w : World) (hok : s.ok) (h : SAt w p s g o c) (i : Nat) (hn0 : freeOf s 0 < 0) (hi : freeOf s 1 = (i : Int)) : Calls Try.prog 6 #[.pointer (some ⟨p, 0, none⟩), .int .i64 1] w fun e w' => e = .returned (.tuple #[.int .i64 (SpAsk.Sp.sec s i : Int), .int .i64 (-1), .int .i64 0]) ∧ Now w w' p (S4 s (s.st.set i 2)) := by
  have hpw := Bk.lt h.blk
  have HFO : Hid (∀ W, Fr0 w W → Calls Try.prog 11 #[.agg (sval s g o c)] W fun e w' => e = .returned (.bool true) ∧ Fr0 W w') := Lib.hid (fun W f => formed_calls s g o c W hok (h.rd.keep f))
  have HCL : Hid (∀ W, Fr0 w W → Calls Try.prog 14 #[.slice (some ⟨g, o, none⟩) s.st.length c] W fun e w' => ∃ g1 c1 cur, e = .returned (.slice (some ⟨g1, 0, none⟩) s.st.length c1) ∧ W.heap.size ≤ g1 ∧ OwnU w' g1 c1 cur s.st ∧ Fr0 W w') := Lib.hid (fun W f => clone_calls g o c s.st W (h.rd.keep f) (by have := hok.len; have := hok.z2; omega))
  have HI : Hid ((Try.prog.info? 26).map (·.size) = some (sval s g o c).size) := Lib.hid (by kernel_rfl)
  have HF0_ : Hid (∀ W, Fr0 w W → Calls Try.prog 12 #[.pointer (some ⟨p, 0, none⟩), .int .i64 0] W fun e w' => e = .returned (.int .i64 (freeOf s 0)) ∧ Fr0 W w') := Lib.hid (fun W f => find0_calls p s g o c W hok (h.keep f))
  have HF1_ : Hid (∀ W, Fr0 w W → Calls Try.prog 12 #[.pointer (some ⟨p, 0, none⟩), .int .i64 1] W fun e w' => e = .returned (.int .i64 (freeOf s 1)) ∧ Fr0 W w') := Lib.hid (fun W f => find1_calls p s g o c W hok (h.keep f))
  have HB := Lib.hid h.blk
  have hfs := free_some hok (by omega) hi
  have hi0 : i < 2 * s.z := by have := hfs.2.1; omega
  rw [free_none hn0] at HF0_
  rw [hi] at HF1_
  clear hfs hi hn0
  have HCO : Hid (∀ W g1 c1, RdI W (some ⟨g1, 0, none⟩) [(i : Int)] → Calls Try.prog 13 #[.slice (some ⟨g1, 0, none⟩) 1 c1, .int .i64 (-1)] W fun e w' => e = .returned (.bool false) ∧ w' = W) := Lib.hid (fun W g1 c1 hr => by
    have := cont_calls g1 0 c1 [(i : Int)] (-1) W hr (by simp)
    rwa [decide_eq_false (by simp; try omega)] at this)
  have HXA : Hid (∀ W : World, RdI (W.alloc (.cells #[.int .i64 (i : Int)] 3)) (some ⟨W.heap.size, 0, none⟩) [(i : Int)]) := Lib.hid (fun W => RdG.of fun i_ hi_ j_ u hj => by
    have hj0 : j_ = 0 := by
      have := (List.getElem?_eq_some_iff.1 hj).1
      simp only [List.length_cons, List.length_nil] at this
      omega
    subst hj0
    simp only [List.length_cons, List.length_nil] at hi_
    rw [Bk.cell (Bk.new W _), ← hj]
    rcases (show i_ = 0 by omega) with rfl <;> rfl)
  have HSE0 : Hid (∀ c' W g', Bk W p (SC s.a s.b s.z (.slice (some ⟨g', 0, none⟩) (2 * s.z) c')) 26 → Calls Try.prog 15 #[.pointer (some ⟨p, 0, none⟩), .int .i64 (i : Int)] W fun e w' => e = .returned (.int .i64 (SpAsk.Sp.sec s i : Int)) ∧ Fr0 W w') := Lib.hid (fun c' W g' hb => sector_calls p s.a s.b s.z i _ W hok.z1 hok.z2 hok.ab hok.top hi0 hb)
  generalize SpAsk.Sp.sec s i = q0 at *
  have HLN := Lib.hid hok.len
  have hz1 := hok.z1
  have hz2 := hok.z2
  have hab := hok.ab
  have htop := hok.top
  clear h hok
  obtain ⟨a, b, z, st⟩ := s
  simp only [sval, S4] at *
  rw [HLN.out] at HB HFO HCL HI
  go_enter Try.func6, Try.ntmps6
  go_wp2_with (first | ((with_reducible show wpList _ _ _ ({ dst := _, op := Op.load 26 _, type := _, pos := _, after := _, guard := _ } :: _) _ _); refine wpList_load_row_g (by rfl) 26 _ rfl p rfl 26 _ (0, 0) _ HB.out Try.underlying26 rfl HI.out ?_) | (go_at_call 11; (with_reducible refine (HFO.out _ (Fr.refl _ _)).mono ?_); rintro e w1 ⟨rfl, hf1⟩; have HF1 := Lib.hid hf1; clear hf1) | (go_at_call 12; (with_reducible refine (HF0_.out _ HF1.out).mono ?_); rintro e w2 ⟨rfl, hf2⟩; have HF2 := Lib.hid (HF1.out.then0 hf2); clear hf2) | (go_at_call 12; (with_reducible refine (HF1_.out _ HF2.out).mono ?_); rintro e w3 ⟨rfl, hf3⟩; have HF3 := Lib.hid (HF2.out.then0 hf3); have HF4 : Hid (Fr0 w (w3.alloc (.cells #[.int .i64 (i : Int)] 3))) := Lib.hid (Fr.alloc HF3.out _); have HB4 : Hid (Bk (w3.alloc (.cells #[.int .i64 (i : Int)] 3)) p (SC a b z (.slice (some ⟨g, o, none⟩) (2 * z) c)) 26) := Lib.hid (HF4.out.keep HB.out (fun h => h)); have HK4 : Hid (Bk (w3.alloc (.cells #[.int .i64 (i : Int)] 3)) w3.heap.size #[.int .i64 (i : Int)] 3) := Lib.hid (Bk.new w3 _); have d3 : (w3.alloc (.cells #[.int .i64 (i : Int)] 3)).cell? ⟨p, 3, none⟩ = some (.slice (some ⟨g, o, none⟩) (2 * z) c) := Bk.cell HB4.out 3; have HW3 := Lib.hid HF3.out.size; clear hf3) | (go_at_call 13; (with_reducible refine (HCO.out _ _ _ (HXA.out _)).mono ?_); rintro e w4 ⟨rfl, rfl⟩) | (go_at_call 14; (with_reducible refine (HCL.out _ HF4.out).mono ?_); rintro e w5 ⟨g1, c1, cur, rfl, hg1, ho1, hf5⟩; have HG1 := Lib.hid hg1; have HO5 := Lib.hid ho1; have HFR5 := Lib.hid (HF4.out.then0 hf5); have HB5 := Lib.hid (hf5.keep HB4.out (fun h => h)); have HK5 := Lib.hid (hf5.keep HK4.out (fun h => h)); have e3 : w5.cell? ⟨p, 3, none⟩ = some (.slice (some ⟨g, o, none⟩) (2 * z) c) := Bk.cell HB5.out 3; have f3 := Bk.free HB5.out 3; clear hg1 ho1 hf5))
  have hk3 := Bk.lt HK4.out
  have hg1 := HG1.out
  have hw3 := HW3.out
  have hs4 : (w3.alloc (.cells #[.int .i64 (i : Int)] 3)).heap.size = w3.heap.size + 1 := by simp
  have hpk := Bk.lt HB4.out
  have hg5 := Bk.lt HO5.out.blk
  have hp3 : p < w3.heap.size := by omega
  have hgp : g1 ≠ p := by omega
  have hgk : g1 ≠ w3.heap.size := by omega
  have hwg : w.heap.size ≤ g1 := by omega
  have hwG : w.heap.size ≤ w5.heap.size := by omega
  have hms : (w5.setCell ⟨p, 3, none⟩ (.slice (some ⟨g1, 0, none⟩) (2 * z) c1)).heap.size = w5.heap.size := by simp [World.setCell]
  have HO6 : Hid (OwnU ((w5.setCell ⟨p, 3, none⟩ (.slice (some ⟨g1, 0, none⟩) (2 * z) c1)).alloc (.cells #[.int .i64 (-1), .int .i64 (-1)] 24)) g1 c1 cur st) := Lib.hid (OwnG.keep (OwnG.keep HO5.out (Fr.set1 w5 p 3 (.slice (some ⟨g1, 0, none⟩) (2 * z) c1)) hgp) (Fr.alloc (Fr.refl (fun _ => False) _) _) (fun h => h))
  have HB6 : Hid (Bk ((w5.setCell ⟨p, 3, none⟩ (.slice (some ⟨g1, 0, none⟩) (2 * z) c1)).alloc (.cells #[.int .i64 (-1), .int .i64 (-1)] 24)) p (SC a b z (.slice (some ⟨g1, 0, none⟩) (2 * z) c1)) 26) := Lib.hid (Bk.alloc (Bk.set HB5.out 3 (.slice (some ⟨g1, 0, none⟩) (2 * z) c1)) _)
  have HK6 : Hid (Bk ((w5.setCell ⟨p, 3, none⟩ (.slice (some ⟨g1, 0, none⟩) (2 * z) c1)).alloc (.cells #[.int .i64 (-1), .int .i64 (-1)] 24)) w3.heap.size #[.int .i64 (i : Int)] 3) := Lib.hid (Bk.alloc (Bk.setOther HK5.out _ _ (by show w3.heap.size ≠ p; omega)) _)
  have HG6 : Hid (Bk ((w5.setCell ⟨p, 3, none⟩ (.slice (some ⟨g1, 0, none⟩) (2 * z) c1)).alloc (.cells #[.int .i64 (-1), .int .i64 (-1)] 24)) w5.heap.size #[.int .i64 (-1), .int .i64 (-1)] 24) := Lib.hid (by have := Bk.new (w5.setCell ⟨p, 3, none⟩ (.slice (some ⟨g1, 0, none⟩) (2 * z) c1)) (.cells #[.int .i64 (-1), .int .i64 (-1)] 24); rwa [hms] at this)
  have HFR6 : Hid (Fr (fun i => i = p) w ((w5.setCell ⟨p, 3, none⟩ (.slice (some ⟨g1, 0, none⟩) (2 * z) c1)).alloc (.cells #[.int .i64 (-1), .int .i64 (-1)] 24))) := Lib.hid (Fr.alloc (Fr.set (HFR5.out.weaken (S' := fun i => i = p) (fun _ _ h => h.elim)) (⟨p, 3, none⟩ : Addr) _ (.inr rfl)) _)
  have hGk : w3.heap.size < w5.heap.size := Bk.lt HK5.out
  clear hs4 hms d3 e3 f3 HB4 HK4 HO5 HB5 HK5 HFR5 HF4 HF3 HF2 HF1 HFO HCL HI HF0_ HF1_ HB HCO HXA HG1 HW3 hk3 hg1 hw3 hpk
  generalize ((w5.setCell ⟨p, 3, none⟩ (.slice (some ⟨g1, 0, none⟩) (2 * z) c1)).alloc (.cells #[.int .i64 (-1), .int .i64 (-1)] 24)) = y0 at *
  generalize w5.heap.size = gg at *
  generalize w3.heap.size = tk at *
  refine wp_loop_rounds 2 ?_
  have hx0 : i < (st).length := by have := HLN.out; omega
  have ca : y0.cell? ⟨p, 3, none⟩ = some (.slice (some ⟨g1, 0, none⟩) (2 * z) c1) := Bk.cell HB6.out 3
  have cb : y0.cell? ⟨tk, 0, none⟩ = some (.int .i64 (i : Int)) := Bk.cell HK6.out 0
  obtain ⟨cv, cc⟩ : ∃ cv : Value, y0.cell? ⟨g1, i, none⟩ = some cv := ⟨_, by have := RdU.cell HO6.out.rd hx0; rwa [Nat.zero_add] at this⟩
  have ff := Bk.free HO6.out.blk i
  have HBs : Hid (Bk (y0.setCell ⟨g1, i, none⟩ (.int .u8 2)) p (SC a b z (.slice (some ⟨g1, 0, none⟩) (2 * z) c1)) 26) := Lib.hid (Bk.setOther HB6.out _ _ (by show p ≠ g1; omega))
  have HOs : Hid (OwnU (y0.setCell ⟨g1, i, none⟩ (.int .u8 2)) g1 c1 (cur.setIfInBounds i (B 2)) (st.set i 2)) := Lib.hid (OwnU.set1 HO6.out hx0 2)
  have HKs : Hid (Bk (y0.setCell ⟨g1, i, none⟩ (.int .u8 2)) tk #[.int .i64 (i : Int)] 3) := Lib.hid (Bk.setOther HK6.out _ _ (by show tk ≠ g1; omega))
  have HGs : Hid (Bk (y0.setCell ⟨g1, i, none⟩ (.int .u8 2)) gg #[.int .i64 (-1), .int .i64 (-1)] 24) := Lib.hid (Bk.setOther HG6.out _ _ (by show gg ≠ g1; omega))
  have HFs : Hid (Fr (fun i => i = p) w (y0.setCell ⟨g1, i, none⟩ (.int .u8 2))) := Lib.hid (Fr.set HFR6.out _ _ (.inl (by show w.heap.size ≤ g1; omega)))
  clear hx0 HO6 HB6 HK6 HG6 HFR6
  rw [rounds_succ]
  go_wp2_with (go_at_call 15; (with_reducible refine (HSE0.out _ _ _ HBs.out).mono ?_); rintro e v0 ⟨rfl, hfv⟩; have HOt := Lib.hid (OwnG.keep HOs.out hfv (fun h => h)); have HBt := Lib.hid (hfv.keep HBs.out (fun h => h)); have HKt := Lib.hid (hfv.keep HKs.out (fun h => h)); have HGt := Lib.hid (hfv.keep HGs.out (fun h => h)); have HFt := Lib.hid (HFs.out.then0 hfv); have cg : v0.cell? ⟨gg, 0, none⟩ = some (.int .i64 (-1)) := Bk.cell HGt.out 0; have fg := Bk.free HGt.out 0; clear hfv ca cb cc ff)
  clear cg fg
  have HOu0 : Hid (OwnU (v0.setCell ⟨gg, 0, none⟩ (.int .i64 (q0 : Int))) g1 c1 (cur.setIfInBounds i (B 2)) (st.set i 2)) := Lib.hid (OwnG.keep HOt.out (Fr.set1 _ _ _ _) (by omega))
  have HBu0 : Hid (Bk (v0.setCell ⟨gg, 0, none⟩ (.int .i64 (q0 : Int))) p (SC a b z (.slice (some ⟨g1, 0, none⟩) (2 * z) c1)) 26) := Lib.hid (Bk.setOther HBt.out _ _ (by show p ≠ gg; omega))
  have HKu0 : Hid (Bk (v0.setCell ⟨gg, 0, none⟩ (.int .i64 (q0 : Int))) tk #[.int .i64 (i : Int)] 3) := Lib.hid (Bk.setOther HKt.out _ _ (by show tk ≠ gg; omega))
  have HGu0 : Hid (Bk (v0.setCell ⟨gg, 0, none⟩ (.int .i64 (q0 : Int))) gg #[.int .i64 (q0 : Int), .int .i64 (-1)] 24) := Lib.hid (Bk.set HGt.out 0 _)
  have HFu0 : Hid (Fr (fun i => i = p) w (v0.setCell ⟨gg, 0, none⟩ (.int .i64 (q0 : Int)))) := Lib.hid (Fr.set HFt.out _ _ (.inl (by show w.heap.size ≤ gg; omega)))
  clear HOs HBs HKs HGs HFs HOt HBt HKt HGt HFt
  generalize (v0.setCell ⟨gg, 0, none⟩ (.int .i64 (q0 : Int))) = y1 at *
  have da : y1.cell? ⟨gg, 0, none⟩ = some (.int .i64 (q0 : Int)) := Bk.cell HGu0.out 0
  have db : y1.cell? ⟨gg, 1, none⟩ = some (.int .i64 (-1)) := Bk.cell HGu0.out 1
  rw [rounds_succ]
  go_wp2
  go_quiet (fail)
  go_wp2
  go_ret3
  have hcap := HOu0.out.room
  have hmax := HOu0.out.max
  refine ⟨rfl, ⟨g1, c1, hwg, ?_, (HOu0.out.rd).keep (Fr.drewN (Fr.refl _ _) nq), hcap, hmax⟩, Fr.drewN HFu0.out nq⟩
  have := HBu0.out
  show Bk _ p (SC a b z (.slice (some ⟨g1, 0, none⟩) ((st.set i 2)).length c1)) 26
  rw [List.length_set, HLN.out]
  exact this

set_option maxHeartbeats 4000000 in
set_option maxRecDepth 100000 in
theorem take_two (p : Nat) (s : Sp) (g o c : Nat) (w : World) (hok : s.ok) (h : SAt w p s g o c) (i j : Nat) (hi : freeOf s 0 = (i : Int)) (hj : freeOf s 1 = (j : Int)) : Calls Try.prog 6 #[.pointer (some ⟨p, 0, none⟩), .int .i64 2] w fun e w' => e = .returned (.tuple #[.int .i64 (SpAsk.Sp.sec s i : Int), .int .i64 (SpAsk.Sp.sec s j : Int), .int .i64 0]) ∧ Now w w' p (S4 s ((s.st.set i 2).set j 2)) := by
  have hpw := Bk.lt h.blk
  have HFO : Hid (∀ W, Fr0 w W → Calls Try.prog 11 #[.agg (sval s g o c)] W fun e w' => e = .returned (.bool true) ∧ Fr0 W w') := Lib.hid (fun W f => formed_calls s g o c W hok (h.rd.keep f))
  have HCL : Hid (∀ W, Fr0 w W → Calls Try.prog 14 #[.slice (some ⟨g, o, none⟩) s.st.length c] W fun e w' => ∃ g1 c1 cur, e = .returned (.slice (some ⟨g1, 0, none⟩) s.st.length c1) ∧ W.heap.size ≤ g1 ∧ OwnU w' g1 c1 cur s.st ∧ Fr0 W w') := Lib.hid (fun W f => clone_calls g o c s.st W (h.rd.keep f) (by have := hok.len; have := hok.z2; omega))
  have HI : Hid ((Try.prog.info? 26).map (·.size) = some (sval s g o c).size) := Lib.hid (by kernel_rfl)
  have HF0_ : Hid (∀ W, Fr0 w W → Calls Try.prog 12 #[.pointer (some ⟨p, 0, none⟩), .int .i64 0] W fun e w' => e = .returned (.int .i64 (freeOf s 0)) ∧ Fr0 W w') := Lib.hid (fun W f => find0_calls p s g o c W hok (h.keep f))
  have HF1_ : Hid (∀ W, Fr0 w W → Calls Try.prog 12 #[.pointer (some ⟨p, 0, none⟩), .int .i64 1] W fun e w' => e = .returned (.int .i64 (freeOf s 1)) ∧ Fr0 W w') := Lib.hid (fun W f => find1_calls p s g o c W hok (h.keep f))
  have HB := Lib.hid h.blk
  have hfs := free_some hok (by omega) hi
  have hft := free_some hok (by omega) hj
  have hi0 : i < 2 * s.z := by have := hfs.2.1; omega
  have hi1 : j < 2 * s.z := by have := hft.2.1; omega
  rw [hi] at HF0_
  rw [hj] at HF1_
  clear hfs hft hi hj
  have HCO : Hid (∀ W g1 c1, RdI W (some ⟨g1, 0, none⟩) [(i : Int), (j : Int)] → Calls Try.prog 13 #[.slice (some ⟨g1, 0, none⟩) 2 c1, .int .i64 (-1)] W fun e w' => e = .returned (.bool false) ∧ w' = W) := Lib.hid (fun W g1 c1 hr => by
    have := cont_calls g1 0 c1 [(i : Int), (j : Int)] (-1) W hr (by simp)
    rwa [decide_eq_false (by simp; try omega)] at this)
  have HXA : Hid (∀ W : World, RdI (W.alloc (.cells #[.int .i64 (i : Int), .int .i64 (j : Int)] 3)) (some ⟨W.heap.size, 0, none⟩) [(i : Int), (j : Int)]) := Lib.hid (fun W => RdG.of fun i_ hi_ j_ u hj => by
    have hj0 : j_ = 0 := by
      have := (List.getElem?_eq_some_iff.1 hj).1
      simp only [List.length_cons, List.length_nil] at this
      omega
    subst hj0
    simp only [List.length_cons, List.length_nil] at hi_
    rw [Bk.cell (Bk.new W _), ← hj]
    rcases (show i_ = 0 ∨ i_ = 1 by omega) with rfl | rfl <;> rfl)
  have HSE0 : Hid (∀ c' W g', Bk W p (SC s.a s.b s.z (.slice (some ⟨g', 0, none⟩) (2 * s.z) c')) 26 → Calls Try.prog 15 #[.pointer (some ⟨p, 0, none⟩), .int .i64 (i : Int)] W fun e w' => e = .returned (.int .i64 (SpAsk.Sp.sec s i : Int)) ∧ Fr0 W w') := Lib.hid (fun c' W g' hb => sector_calls p s.a s.b s.z i _ W hok.z1 hok.z2 hok.ab hok.top hi0 hb)
  generalize SpAsk.Sp.sec s i = q0 at *
  have HSE1 : Hid (∀ c' W g', Bk W p (SC s.a s.b s.z (.slice (some ⟨g', 0, none⟩) (2 * s.z) c')) 26 → Calls Try.prog 15 #[.pointer (some ⟨p, 0, none⟩), .int .i64 (j : Int)] W fun e w' => e = .returned (.int .i64 (SpAsk.Sp.sec s j : Int)) ∧ Fr0 W w') := Lib.hid (fun c' W g' hb => sector_calls p s.a s.b s.z j _ W hok.z1 hok.z2 hok.ab hok.top hi1 hb)
  generalize SpAsk.Sp.sec s j = q1 at *
  have HLN := Lib.hid hok.len
  have hz1 := hok.z1
  have hz2 := hok.z2
  have hab := hok.ab
  have htop := hok.top
  clear h hok
  obtain ⟨a, b, z, st⟩ := s
  simp only [sval, S4] at *
  rw [HLN.out] at HB HFO HCL HI
  go_enter Try.func6, Try.ntmps6
  go_wp2_with (first | ((with_reducible show wpList _ _ _ ({ dst := _, op := Op.load 26 _, type := _, pos := _, after := _, guard := _ } :: _) _ _); refine wpList_load_row_g (by rfl) 26 _ rfl p rfl 26 _ (0, 0) _ HB.out Try.underlying26 rfl HI.out ?_) | (go_at_call 11; (with_reducible refine (HFO.out _ (Fr.refl _ _)).mono ?_); rintro e w1 ⟨rfl, hf1⟩; have HF1 := Lib.hid hf1; clear hf1) | (go_at_call 12; (with_reducible refine (HF0_.out _ HF1.out).mono ?_); rintro e w2 ⟨rfl, hf2⟩; have HF2 := Lib.hid (HF1.out.then0 hf2); clear hf2) | (go_at_call 12; (with_reducible refine (HF1_.out _ HF2.out).mono ?_); rintro e w3 ⟨rfl, hf3⟩; have HF3 := Lib.hid (HF2.out.then0 hf3); have HF4 : Hid (Fr0 w (w3.alloc (.cells #[.int .i64 (i : Int), .int .i64 (j : Int)] 3))) := Lib.hid (Fr.alloc HF3.out _); have HB4 : Hid (Bk (w3.alloc (.cells #[.int .i64 (i : Int), .int .i64 (j : Int)] 3)) p (SC a b z (.slice (some ⟨g, o, none⟩) (2 * z) c)) 26) := Lib.hid (HF4.out.keep HB.out (fun h => h)); have HK4 : Hid (Bk (w3.alloc (.cells #[.int .i64 (i : Int), .int .i64 (j : Int)] 3)) w3.heap.size #[.int .i64 (i : Int), .int .i64 (j : Int)] 3) := Lib.hid (Bk.new w3 _); have d3 : (w3.alloc (.cells #[.int .i64 (i : Int), .int .i64 (j : Int)] 3)).cell? ⟨p, 3, none⟩ = some (.slice (some ⟨g, o, none⟩) (2 * z) c) := Bk.cell HB4.out 3; have HW3 := Lib.hid HF3.out.size; clear hf3) | (go_at_call 13; (with_reducible refine (HCO.out _ _ _ (HXA.out _)).mono ?_); rintro e w4 ⟨rfl, rfl⟩) | (go_at_call 14; (with_reducible refine (HCL.out _ HF4.out).mono ?_); rintro e w5 ⟨g1, c1, cur, rfl, hg1, ho1, hf5⟩; have HG1 := Lib.hid hg1; have HO5 := Lib.hid ho1; have HFR5 := Lib.hid (HF4.out.then0 hf5); have HB5 := Lib.hid (hf5.keep HB4.out (fun h => h)); have HK5 := Lib.hid (hf5.keep HK4.out (fun h => h)); have e3 : w5.cell? ⟨p, 3, none⟩ = some (.slice (some ⟨g, o, none⟩) (2 * z) c) := Bk.cell HB5.out 3; have f3 := Bk.free HB5.out 3; clear hg1 ho1 hf5))
  have hk3 := Bk.lt HK4.out
  have hg1 := HG1.out
  have hw3 := HW3.out
  have hs4 : (w3.alloc (.cells #[.int .i64 (i : Int), .int .i64 (j : Int)] 3)).heap.size = w3.heap.size + 1 := by simp
  have hpk := Bk.lt HB4.out
  have hg5 := Bk.lt HO5.out.blk
  have hp3 : p < w3.heap.size := by omega
  have hgp : g1 ≠ p := by omega
  have hgk : g1 ≠ w3.heap.size := by omega
  have hwg : w.heap.size ≤ g1 := by omega
  have hwG : w.heap.size ≤ w5.heap.size := by omega
  have hms : (w5.setCell ⟨p, 3, none⟩ (.slice (some ⟨g1, 0, none⟩) (2 * z) c1)).heap.size = w5.heap.size := by simp [World.setCell]
  have HO6 : Hid (OwnU ((w5.setCell ⟨p, 3, none⟩ (.slice (some ⟨g1, 0, none⟩) (2 * z) c1)).alloc (.cells #[.int .i64 (-1), .int .i64 (-1)] 24)) g1 c1 cur st) := Lib.hid (OwnG.keep (OwnG.keep HO5.out (Fr.set1 w5 p 3 (.slice (some ⟨g1, 0, none⟩) (2 * z) c1)) hgp) (Fr.alloc (Fr.refl (fun _ => False) _) _) (fun h => h))
  have HB6 : Hid (Bk ((w5.setCell ⟨p, 3, none⟩ (.slice (some ⟨g1, 0, none⟩) (2 * z) c1)).alloc (.cells #[.int .i64 (-1), .int .i64 (-1)] 24)) p (SC a b z (.slice (some ⟨g1, 0, none⟩) (2 * z) c1)) 26) := Lib.hid (Bk.alloc (Bk.set HB5.out 3 (.slice (some ⟨g1, 0, none⟩) (2 * z) c1)) _)
  have HK6 : Hid (Bk ((w5.setCell ⟨p, 3, none⟩ (.slice (some ⟨g1, 0, none⟩) (2 * z) c1)).alloc (.cells #[.int .i64 (-1), .int .i64 (-1)] 24)) w3.heap.size #[.int .i64 (i : Int), .int .i64 (j : Int)] 3) := Lib.hid (Bk.alloc (Bk.setOther HK5.out _ _ (by show w3.heap.size ≠ p; omega)) _)
  have HG6 : Hid (Bk ((w5.setCell ⟨p, 3, none⟩ (.slice (some ⟨g1, 0, none⟩) (2 * z) c1)).alloc (.cells #[.int .i64 (-1), .int .i64 (-1)] 24)) w5.heap.size #[.int .i64 (-1), .int .i64 (-1)] 24) := Lib.hid (by have := Bk.new (w5.setCell ⟨p, 3, none⟩ (.slice (some ⟨g1, 0, none⟩) (2 * z) c1)) (.cells #[.int .i64 (-1), .int .i64 (-1)] 24); rwa [hms] at this)
  have HFR6 : Hid (Fr (fun i => i = p) w ((w5.setCell ⟨p, 3, none⟩ (.slice (some ⟨g1, 0, none⟩) (2 * z) c1)).alloc (.cells #[.int .i64 (-1), .int .i64 (-1)] 24))) := Lib.hid (Fr.alloc (Fr.set (HFR5.out.weaken (S' := fun i => i = p) (fun _ _ h => h.elim)) (⟨p, 3, none⟩ : Addr) _ (.inr rfl)) _)
  have hGk : w3.heap.size < w5.heap.size := Bk.lt HK5.out
  clear hs4 hms d3 e3 f3 HB4 HK4 HO5 HB5 HK5 HFR5 HF4 HF3 HF2 HF1 HFO HCL HI HF0_ HF1_ HB HCO HXA HG1 HW3 hk3 hg1 hw3 hpk
  generalize ((w5.setCell ⟨p, 3, none⟩ (.slice (some ⟨g1, 0, none⟩) (2 * z) c1)).alloc (.cells #[.int .i64 (-1), .int .i64 (-1)] 24)) = y0 at *
  generalize w5.heap.size = gg at *
  generalize w3.heap.size = tk at *
  refine wp_loop_rounds 3 ?_
  have hx0 : i < (st).length := by have := HLN.out; omega
  have ca : y0.cell? ⟨p, 3, none⟩ = some (.slice (some ⟨g1, 0, none⟩) (2 * z) c1) := Bk.cell HB6.out 3
  have cb : y0.cell? ⟨tk, 0, none⟩ = some (.int .i64 (i : Int)) := Bk.cell HK6.out 0
  obtain ⟨cv, cc⟩ : ∃ cv : Value, y0.cell? ⟨g1, i, none⟩ = some cv := ⟨_, by have := RdU.cell HO6.out.rd hx0; rwa [Nat.zero_add] at this⟩
  have ff := Bk.free HO6.out.blk i
  have HBs : Hid (Bk (y0.setCell ⟨g1, i, none⟩ (.int .u8 2)) p (SC a b z (.slice (some ⟨g1, 0, none⟩) (2 * z) c1)) 26) := Lib.hid (Bk.setOther HB6.out _ _ (by show p ≠ g1; omega))
  have HOs : Hid (OwnU (y0.setCell ⟨g1, i, none⟩ (.int .u8 2)) g1 c1 (cur.setIfInBounds i (B 2)) (st.set i 2)) := Lib.hid (OwnU.set1 HO6.out hx0 2)
  have HKs : Hid (Bk (y0.setCell ⟨g1, i, none⟩ (.int .u8 2)) tk #[.int .i64 (i : Int), .int .i64 (j : Int)] 3) := Lib.hid (Bk.setOther HK6.out _ _ (by show tk ≠ g1; omega))
  have HGs : Hid (Bk (y0.setCell ⟨g1, i, none⟩ (.int .u8 2)) gg #[.int .i64 (-1), .int .i64 (-1)] 24) := Lib.hid (Bk.setOther HG6.out _ _ (by show gg ≠ g1; omega))
  have HFs : Hid (Fr (fun i => i = p) w (y0.setCell ⟨g1, i, none⟩ (.int .u8 2))) := Lib.hid (Fr.set HFR6.out _ _ (.inl (by show w.heap.size ≤ g1; omega)))
  clear hx0 HO6 HB6 HK6 HG6 HFR6
  rw [rounds_succ]
  go_wp2_with (go_at_call 15; (with_reducible refine (HSE0.out _ _ _ HBs.out).mono ?_); rintro e v0 ⟨rfl, hfv⟩; have HOt := Lib.hid (OwnG.keep HOs.out hfv (fun h => h)); have HBt := Lib.hid (hfv.keep HBs.out (fun h => h)); have HKt := Lib.hid (hfv.keep HKs.out (fun h => h)); have HGt := Lib.hid (hfv.keep HGs.out (fun h => h)); have HFt := Lib.hid (HFs.out.then0 hfv); have cg : v0.cell? ⟨gg, 0, none⟩ = some (.int .i64 (-1)) := Bk.cell HGt.out 0; have fg := Bk.free HGt.out 0; clear hfv ca cb cc ff)
  clear cg fg
  have HOu0 : Hid (OwnU (v0.setCell ⟨gg, 0, none⟩ (.int .i64 (q0 : Int))) g1 c1 (cur.setIfInBounds i (B 2)) (st.set i 2)) := Lib.hid (OwnG.keep HOt.out (Fr.set1 _ _ _ _) (by omega))
  have HBu0 : Hid (Bk (v0.setCell ⟨gg, 0, none⟩ (.int .i64 (q0 : Int))) p (SC a b z (.slice (some ⟨g1, 0, none⟩) (2 * z) c1)) 26) := Lib.hid (Bk.setOther HBt.out _ _ (by show p ≠ gg; omega))
  have HKu0 : Hid (Bk (v0.setCell ⟨gg, 0, none⟩ (.int .i64 (q0 : Int))) tk #[.int .i64 (i : Int), .int .i64 (j : Int)] 3) := Lib.hid (Bk.setOther HKt.out _ _ (by show tk ≠ gg; omega))
  have HGu0 : Hid (Bk (v0.setCell ⟨gg, 0, none⟩ (.int .i64 (q0 : Int))) gg #[.int .i64 (q0 : Int), .int .i64 (-1)] 24) := Lib.hid (Bk.set HGt.out 0 _)
  have HFu0 : Hid (Fr (fun i => i = p) w (v0.setCell ⟨gg, 0, none⟩ (.int .i64 (q0 : Int)))) := Lib.hid (Fr.set HFt.out _ _ (.inl (by show w.heap.size ≤ gg; omega)))
  clear HOs HBs HKs HGs HFs HOt HBt HKt HGt HFt
  generalize (v0.setCell ⟨gg, 0, none⟩ (.int .i64 (q0 : Int))) = y1 at *
  have hx1 : j < ((st.set i 2)).length := by rw [List.length_set]; have := HLN.out; omega
  have ca : y1.cell? ⟨p, 3, none⟩ = some (.slice (some ⟨g1, 0, none⟩) (2 * z) c1) := Bk.cell HBu0.out 3
  have cb : y1.cell? ⟨tk, 1, none⟩ = some (.int .i64 (j : Int)) := Bk.cell HKu0.out 1
  obtain ⟨cv, cc⟩ : ∃ cv : Value, y1.cell? ⟨g1, j, none⟩ = some cv := ⟨_, by have := RdU.cell HOu0.out.rd hx1; rwa [Nat.zero_add] at this⟩
  have ff := Bk.free HOu0.out.blk j
  have HBs : Hid (Bk (y1.setCell ⟨g1, j, none⟩ (.int .u8 2)) p (SC a b z (.slice (some ⟨g1, 0, none⟩) (2 * z) c1)) 26) := Lib.hid (Bk.setOther HBu0.out _ _ (by show p ≠ g1; omega))
  have HOs : Hid (OwnU (y1.setCell ⟨g1, j, none⟩ (.int .u8 2)) g1 c1 ((cur.setIfInBounds i (B 2)).setIfInBounds j (B 2)) ((st.set i 2).set j 2)) := Lib.hid (OwnU.set1 HOu0.out hx1 2)
  have HKs : Hid (Bk (y1.setCell ⟨g1, j, none⟩ (.int .u8 2)) tk #[.int .i64 (i : Int), .int .i64 (j : Int)] 3) := Lib.hid (Bk.setOther HKu0.out _ _ (by show tk ≠ g1; omega))
  have HGs : Hid (Bk (y1.setCell ⟨g1, j, none⟩ (.int .u8 2)) gg #[.int .i64 (q0 : Int), .int .i64 (-1)] 24) := Lib.hid (Bk.setOther HGu0.out _ _ (by show gg ≠ g1; omega))
  have HFs : Hid (Fr (fun i => i = p) w (y1.setCell ⟨g1, j, none⟩ (.int .u8 2))) := Lib.hid (Fr.set HFu0.out _ _ (.inl (by show w.heap.size ≤ g1; omega)))
  clear hx1 HOu0 HBu0 HKu0 HGu0 HFu0
  rw [rounds_succ]
  go_wp2_with (go_at_call 15; (with_reducible refine (HSE1.out _ _ _ HBs.out).mono ?_); rintro e v1 ⟨rfl, hfv⟩; have HOt := Lib.hid (OwnG.keep HOs.out hfv (fun h => h)); have HBt := Lib.hid (hfv.keep HBs.out (fun h => h)); have HKt := Lib.hid (hfv.keep HKs.out (fun h => h)); have HGt := Lib.hid (hfv.keep HGs.out (fun h => h)); have HFt := Lib.hid (HFs.out.then0 hfv); have cg : v1.cell? ⟨gg, 1, none⟩ = some (.int .i64 (-1)) := Bk.cell HGt.out 1; have fg := Bk.free HGt.out 1; clear hfv ca cb cc ff)
  clear cg fg
  have HOu1 : Hid (OwnU (v1.setCell ⟨gg, 1, none⟩ (.int .i64 (q1 : Int))) g1 c1 ((cur.setIfInBounds i (B 2)).setIfInBounds j (B 2)) ((st.set i 2).set j 2)) := Lib.hid (OwnG.keep HOt.out (Fr.set1 _ _ _ _) (by omega))
  have HBu1 : Hid (Bk (v1.setCell ⟨gg, 1, none⟩ (.int .i64 (q1 : Int))) p (SC a b z (.slice (some ⟨g1, 0, none⟩) (2 * z) c1)) 26) := Lib.hid (Bk.setOther HBt.out _ _ (by show p ≠ gg; omega))
  have HKu1 : Hid (Bk (v1.setCell ⟨gg, 1, none⟩ (.int .i64 (q1 : Int))) tk #[.int .i64 (i : Int), .int .i64 (j : Int)] 3) := Lib.hid (Bk.setOther HKt.out _ _ (by show tk ≠ gg; omega))
  have HGu1 : Hid (Bk (v1.setCell ⟨gg, 1, none⟩ (.int .i64 (q1 : Int))) gg #[.int .i64 (q0 : Int), .int .i64 (q1 : Int)] 24) := Lib.hid (Bk.set HGt.out 1 _)
  have HFu1 : Hid (Fr (fun i => i = p) w (v1.setCell ⟨gg, 1, none⟩ (.int .i64 (q1 : Int)))) := Lib.hid (Fr.set HFt.out _ _ (.inl (by show w.heap.size ≤ gg; omega)))
  clear HOs HBs HKs HGs HFs HOt HBt HKt HGt HFt
  generalize (v1.setCell ⟨gg, 1, none⟩ (.int .i64 (q1 : Int))) = y2 at *
  have da : y2.cell? ⟨gg, 0, none⟩ = some (.int .i64 (q0 : Int)) := Bk.cell HGu1.out 0
  have db : y2.cell? ⟨gg, 1, none⟩ = some (.int .i64 (q1 : Int)) := Bk.cell HGu1.out 1
  rw [rounds_succ]
  go_wp2
  go_quiet (fail)
  go_wp2
  go_ret3
  have hcap := HOu1.out.room
  have hmax := HOu1.out.max
  refine ⟨rfl, ⟨g1, c1, hwg, ?_, (HOu1.out.rd).keep (Fr.drewN (Fr.refl _ _) nq), hcap, hmax⟩, Fr.drewN HFu1.out nq⟩
  have := HBu1.out
  show Bk _ p (SC a b z (.slice (some ⟨g1, 0, none⟩) (((st.set i 2).set j 2)).length c1)) 26
  rw [List.length_set, List.length_set, HLN.out]
  exact this

end Go.Proofs.Ytpbhnpoldjdfdaa.SpTake
