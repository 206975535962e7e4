/- The theorems that the claim uses, text behind text (part 26). -/
import Derived.Test.YtmkmpfnadcmcoaaDoorXaj
import Derived.Test.YtmkmpfnadcmcoaaDoorXaw
import Derived.Test.YtmkmpfnadcmcoaaDoorXay
set_option maxRecDepth 100000
set_option linter.unusedVariables false
set_option linter.unusedSimpArgs false
namespace Go.Proofs.YtmkmpfnadcmcoaaDoor.DitLostLaw
open Go Go.RowKit Go.Proofs.YtmkmpfnadcmcoaaDoor.K Go.Proofs.YtmkmpfnadcmcoaaDoor.EqKit Go.Proofs.YtmkmpfnadcmcoaaDoor.ArrKit Go.Proofs.YtmkmpfnadcmcoaaDoor.HeldKit Go.Proofs.YtmkmpfnadcmcoaaDoor.GKit Go.Proofs.YtmkmpfnadcmcoaaDoor.GRow Go.Proofs.YtmkmpfnadcmcoaaDoor.DiskKit Go.Proofs.YtmkmpfnadcmcoaaDoor.RmKit Go.Proofs.YtmkmpfnadcmcoaaDoor.MapKit Go.Proofs.YtmkmpfnadcmcoaaDoor.ShaStep Go.Proofs.YtmkmpfnadcmcoaaDoor.ShaRef Go.Proofs.YtmkmpfnadcmcoaaDoor.ShaPad Go.Proofs.YtmkmpfnadcmcoaaDoor.ShaSum Go.Proofs.YtmkmpfnadcmcoaaDoor.ShaRSum Go.Proofs.YtmkmpfnadcmcoaaDoor.RmRight Go.Proofs.YtmkmpfnadcmcoaaDoor.RmTab Go.Proofs.YtmkmpfnadcmcoaaDoor.RmPut Go.Proofs.YtmkmpfnadcmcoaaDoor.RmAsk Go.Proofs.YtmkmpfnadcmcoaaDoor.RmSame Go.Proofs.YtmkmpfnadcmcoaaDoor.DiskRRead Go.Proofs.YtmkmpfnadcmcoaaDoor.RmRead Go.Proofs.YtmkmpfnadcmcoaaDoor.RmReads Go.Proofs.YtmkmpfnadcmcoaaDoor.DiskAct Go.Proofs.YtmkmpfnadcmcoaaDoor.RmSpare Go.Proofs.YtmkmpfnadcmcoaaDoor.RmKeep Go.Proofs.YtmkmpfnadcmcoaaDoor.RmFirst Go.Proofs.YtmkmpfnadcmcoaaDoor.RmFormat Go.Proofs.YtmkmpfnadcmcoaaDoor.DiskNew Go.Proofs.YtmkmpfnadcmcoaaDoor.DiskHit Go.Proofs.YtmkmpfnadcmcoaaDoor.DiskLay Go.Proofs.YtmkmpfnadcmcoaaDoor.RmAliveP Go.Proofs.YtmkmpfnadcmcoaaDoor.RmWrX Go.Proofs.YtmkmpfnadcmcoaaDoor.RmPair Go.Proofs.YtmkmpfnadcmcoaaDoor.PtrKit Go.Proofs.YtmkmpfnadcmcoaaDoor.DitKit Go.Proofs.YtmkmpfnadcmcoaaDoor.DitHome Go.Proofs.YtmkmpfnadcmcoaaDoor.DitGet Go.Proofs.YtmkmpfnadcmcoaaDoor.DitPut Go.Proofs.YtmkmpfnadcmcoaaDoor.DitAliveP Go.Proofs.YtmkmpfnadcmcoaaDoor.DitFresh Go.Proofs.YtmkmpfnadcmcoaaDoor.DitAlive Go.Proofs.YtmkmpfnadcmcoaaDoor.DitLook Go.Proofs.YtmkmpfnadcmcoaaDoor.DitAgainP Go.Proofs.YtmkmpfnadcmcoaaDoor.DitLostP Go.Proofs.YtmkmpfnadcmcoaaDoor.WKit Go.Proofs.YtmkmpfnadcmcoaaDoor.EqlKit Go.Proofs.YtmkmpfnadcmcoaaDoor.DiskSame Go.Proofs.YtmkmpfnadcmcoaaDoor.DiskTwins
theorem rng_keep {w w1 : World} {b o : Nat} {cs : List Value} (f : Fr0 w w1) (h : w.rangeAt b o cs) : w1.rangeAt b o cs := fun j v hj => (f.cell b (o + j) (World.block_lt_of_cell? w _ (h j v hj)) (fun h => h)).trans (h j v hj)
theorem info_32 (l : List UInt8) (h : l.length = 32) : (Tryd.prog.info? 35).map (·.size) = some (l.map B).toArray.size := by rw [List.size_toArray, List.length_map, h]; kernel_rfl
def Z32A : Array Value := (List.replicate 32 (.int .u8 0)).toArray
theorem y_ne (y : UInt8) : ((y.toNat : Int) != 0) = decide (y ≠ 0) := by
  by_cases h : y = 0
  · subst h; rfl
  · have h2 : y.toNat ≠ 0 := fun e => h (UInt8.toNat_inj.1 e)
    rw [decide_eq_true h]
    simp
    omega

theorem build_zb_g {ops : Array Oper} {rest : List Oper} {o : Oper} {a : Act} {w : World} {Q : Exit → Act → World → Prop} (hw : Region.wanted o (yielded ops a.tmps) = true) (parts : Array (Nat × Operand)) (ho : o.op = .build 22 #[])
    (h : wpList Tryd.prog ops Q rest (a.put o.dst (.agg ZB)) w) : wpList Tryd.prog ops Q (o :: rest) a w := by
  refine wpList_run_g hw (.agg ZB) w ?_ h
  exact GApp.run_build_op 22 #[] ho [] (by simp) ZB DitGet.built_zb

set_option maxHeartbeats 8000000 in
set_option maxRecDepth 100000 in
theorem lost_t (bl : List UInt8) (y0 y1 : UInt8) (w : World) (hbl : bl.length = 128) (hsh : Sh w) : Calls Tryd.prog 4 #[.agg (bl.map B).toArray, .bool true, .agg #[B y0, B y1]] w fun e w' => e = .returned (.bool true) ∧ Fr0 w w' := by
  have HSH := Lib.hid hsh
  have hT := tabL_len MA (by decide)
  obtain ⟨o0, o3, -⟩ := f_ok (tabL MA) hT
  have o4 : (G4 (tabL MA) bl).ok := writeD_ok (q := 3) o3 hbl (by decide)
  have o5 : (G5 (tabL MA) bl).ok := writeD_ok (q := 25) o4 hbl (by decide)
  have o6 : (G6 (tabL MA) bl).ok := flushD_ok o5
  have hMA : MA.ok := ⟨by decide, fun x hx => by cases hx⟩
  have hx0 : (bl.set 5 (bl.getD 5 0 ^^^ y0)).length = 128 := by rw [List.length_set]; exact hbl
  have hx1 : (bl.set 9 (bl.getD 9 0 ^^^ y1)).length = 128 := by rw [List.length_set]; exact hbl
  have o61 : ((setS (G6 (tabL MA) bl) 3 ⟨(bl.set 5 (bl.getD 5 0 ^^^ y0)), false, false⟩) : Dk).ok := setS_ok o6 _ _ hx0
  have o7 : (two (G6 (tabL MA) bl) (bl.set 5 (bl.getD 5 0 ^^^ y0)) (bl.set 9 (bl.getD 9 0 ^^^ y1))).ok := setS_ok o61 _ _ hx1
  have HAL : Hid (∀ W, Fr0 w W → Calls Tryd.prog 5 #[] W fun e w' => e = .returned (.bool true) ∧ Fr0 W w') := Lib.hid (fun W f => alive_calls W (hsh.keep0 f))
  have HFR : Hid (∀ W, Fr0 w W → Calls Tryd.prog 6 #[] W fun e w' => ∃ sa sc ca cc, e = .returned (.tuple #[.agg (dval (F3 (tabL MA)) sa sc ca cc), .agg RZ, .bool true]) ∧ DV w' (F3 (tabL MA)) sa sc ca cc ∧ Fr0 W w') := Lib.hid (fun W f => fresh_calls W (hsh.keep0 f))
  have HPU : Hid (∀ p r W, r ≠ p → Fr0 w W → PS W p r (F3 (tabL MA)) MA → Calls Tryd.prog 7 #[.pointer (some ⟨p, 0, none⟩), .pointer (some ⟨r, 0, none⟩), .agg (bl.map B).toArray, .int .i64 3, .int .i64 25] W fun e w' => e = .returned (.tuple #[.agg (PC 3 25 (sumOf bl)).toArray, .int .i64 0]) ∧ PS w' p r (G5 (tabL MA) bl) MA ∧ Fr (fun i => i = p ∨ i = r) W w') := Lib.hid (fun p r W hrp f h => put_calls p r (F3 (tabL MA)) (G4 (tabL MA) bl) (G5 (tabL MA) bl) MA bl 3 25 W o3 hMA rfl h hrp (hsh.keep0 f) hbl (by decide) (by decide) (by rw [g_c03]; decide) (by kernel_rfl) (f_home _ _) (by decide) (g_p1 ..) (.inr ⟨by decide, g_p2 ..⟩))
  have HFL : Hid (∀ p r W, r ≠ p → PS W p r (G5 (tabL MA) bl) MA → Calls Tryd.prog 8 #[.pointer (some ⟨p, 0, none⟩)] W fun e w' => e = .returned (.int .i64 0) ∧ PS w' p r (G6 (tabL MA) bl) MA ∧ Fr (fun i => i = p) W w') := Lib.hid (fun p r W hrp h => by
    obtain ⟨⟨sa, sc, ca, cc, h1⟩, -⟩ := id h
    have := DiskFlush.flush_calls p (G5 (tabL MA) bl) sa sc ca cc W o5 h1
    rw [g_f5] at this
    exact this.mono (fun e w' hh => ⟨hh.1, PS.now h hh.2 hrp, hh.2.fr⟩))
  have HH1 : Hid (∀ p r W, r ≠ p → PS W p r (G6 (tabL MA) bl) MA → Calls Tryd.prog 9 #[.pointer (some ⟨p, 0, none⟩), .int .i64 3, .int .i64 1, .int .i64 5, .int .u8 (y0.toNat : Int)] W fun e w' => e = .returned (.int .i64 0) ∧ PS w' p r (setS (G6 (tabL MA) bl) 3 ⟨(bl.set 5 (bl.getD 5 0 ^^^ y0)), false, false⟩) MA ∧ Fr (fun i => i = p) W w') := Lib.hid (fun p r W hrp h => by
    obtain ⟨⟨sa, sc, ca, cc, h1⟩, -⟩ := id h
    have := hit_k1 p 3 1 5 y0 (G6 (tabL MA) bl) sa sc ca cc W o6 h1 (g_r3 ..) rfl (by decide) (by decide)
    rw [g_s3] at this
    exact this.mono (fun e w' hh => ⟨hh.1, PS.now h hh.2 hrp, hh.2.fr⟩))
  have HH2 : Hid (∀ p r W, r ≠ p → PS W p r (setS (G6 (tabL MA) bl) 3 ⟨(bl.set 5 (bl.getD 5 0 ^^^ y0)), false, false⟩) MA → Calls Tryd.prog 9 #[.pointer (some ⟨p, 0, none⟩), .int .i64 25, .int .i64 1, .int .i64 9, .int .u8 (y1.toNat : Int)] W fun e w' => e = .returned (.int .i64 0) ∧ PS w' p r (two (G6 (tabL MA) bl) (bl.set 5 (bl.getD 5 0 ^^^ y0)) (bl.set 9 (bl.getD 9 0 ^^^ y1))) MA ∧ Fr (fun i => i = p) W w') := Lib.hid (fun p r W hrp h => by
    obtain ⟨⟨sa, sc, ca, cc, h1⟩, -⟩ := id h
    have := hit_k1 p 25 1 9 y1 (setS (G6 (tabL MA) bl) 3 ⟨(bl.set 5 (bl.getD 5 0 ^^^ y0)), false, false⟩) sa sc ca cc W o61 h1 (l_r25 ..) rfl (by decide) (by decide)
    rw [l_s25 (tabL MA) bl ⟨(bl.set 5 (bl.getD 5 0 ^^^ y0)), false, false⟩] at this
    exact this.mono (fun e w' hh => ⟨hh.1, PS.now h hh.2 hrp, hh.2.fr⟩))
  have HPL : Hid (((bl.set 5 (bl.getD 5 0 ^^^ y0)) ≠ bl → sumOf (bl.set 5 (bl.getD 5 0 ^^^ y0)) ≠ sumOf bl) → ((bl.set 9 (bl.getD 9 0 ^^^ y1)) ≠ bl → sumOf (bl.set 9 (bl.getD 9 0 ^^^ y1)) ≠ sumOf bl) → ∃ (gb : List UInt8) (n ge rx ry rz he : Int) (D8 D9 : Dk), gb.length = 128 ∧ (∀ p r W, r ≠ p → Fr0 w W → PS W p r (two (G6 (tabL MA) bl) (bl.set 5 (bl.getD 5 0 ^^^ y0)) (bl.set 9 (bl.getD 9 0 ^^^ y1))) MA → Calls Tryd.prog 11 #[.pointer (some ⟨p, 0, none⟩), .pointer (some ⟨r, 0, none⟩), .agg (PC 3 25 (sumOf bl)).toArray] W fun e w' => e = .returned (.tuple #[.agg (gb.map B).toArray, .int .i64 n, .int .i64 ge]) ∧ PS w' p r D8 MA ∧ Fr (fun i => i = p ∨ i = r) W w') ∧ (∀ p r W, r ≠ p → Fr0 w W → PS W p r D8 MA → Calls Tryd.prog 12 #[.pointer (some ⟨p, 0, none⟩), .pointer (some ⟨r, 0, none⟩), .agg (PC 3 25 (sumOf bl)).toArray] W fun e w' => e = .returned (.tuple #[.agg (RP rx ry rz), .int .i64 he]) ∧ PS w' p r D9 MA ∧ Fr (fun i => i = p ∨ i = r) W w') ∧ ((decide (y0 ≠ 0) && decide (y1 ≠ 0)) = true → ge = 2 ∧ he = 2 ∧ gb = Z128) ∧ ((decide (y0 ≠ 0) && decide (y1 ≠ 0)) = false → ge = 0 ∧ he = 0 ∧ gb = bl)) := Lib.hid (fun hs0 hs1 => by
    have e0 : (bl.set 5 (bl.getD 5 0 ^^^ y0)) = bl ↔ y0 = 0 := set_same (by omega) y0
    have e1 : (bl.set 9 (bl.getD 9 0 ^^^ y1)) = bl ↔ y1 = 0 := set_same (by omega) y1
    obtain ⟨gb, n, ge, rx, ry, rz, he, D8, D9, g1, g2, g3, g4, g5⟩ := lost_two (tabL MA) bl (bl.set 5 (bl.getD 5 0 ^^^ y0)) (bl.set 9 (bl.getD 9 0 ^^^ y1)) hs0 hs1 (decide (y0 ≠ 0) && decide (y1 ≠ 0)) (by rw [Bool.and_eq_true, decide_eq_true_eq, decide_eq_true_eq, ne_eq, ne_eq, ne_eq, ne_eq, e0, e1])
    have hc7 : (two (G6 (tabL MA) bl) (bl.set 5 (bl.getD 5 0 ^^^ y0)) (bl.set 9 (bl.getD 9 0 ^^^ y1))).C.length ≤ 900 := by rw [l_c]; decide
    have g8 := getX_ok (b := 25) (s := sumOf bl) o7 hMA (show (Lit.int .i64 3).wf = true by decide)
    rw [g1] at g8
    refine ⟨gb, n, ge, rx, ry, rz, he, D8, D9, g8.1, fun p r W hrp f h => ?_, fun p r W hrp f h => ?_, g4, g5⟩
    · have := get_calls p r (two (G6 (tabL MA) bl) (bl.set 5 (bl.getD 5 0 ^^^ y0)) (bl.set 9 (bl.getD 9 0 ^^^ y1))) MA 3 25 (sumOf bl) W o7 hMA h hrp (hsh.keep0 f) (sumOf_length _) (by decide) (by decide) hc7
      rw [g1] at this
      exact this
    · have := look_calls p r D8 MA 3 25 (sumOf bl) W g8.2.1 hMA h hrp (hsh.keep0 f) (sumOf_length _) (by decide) (by decide) g3
      rw [g2] at this
      exact this)
  have HG7 := Lib.hid (two_S (G6 (tabL MA) bl) (bl.set 5 (bl.getD 5 0 ^^^ y0)) (bl.set 9 (bl.getD 9 0 ^^^ y1)) (g_len (tabL MA) bl))
  have HX0 := Lib.hid hx0
  have HX1 := Lib.hid hx1
  have HRV : Hid (∀ W, RV W MA none 0) := Lib.hid (fun W => rv_nil W 0)
  have HEQ : Hid (∀ x : List UInt8, x.length = 128 → ∀ W, (Op.equalIn 10000 22 (.agg (x.map B).toArray) (.agg (bl.map B).toArray)).run Tryd.prog W = .ok (decide (x = bl)) W) := Lib.hid (fun x hx W => eq_bytes (P := Tryd.prog) Tryd.underlying22 Tryd.underlying5 (by kernel_rfl) (by kernel_rfl) (by kernel_rfl) x bl hx hbl W)
  have HEZ : Hid (∀ W, (Op.equalIn 10000 22 (.agg ZB) (.agg ZB)).run Tryd.prog W = .ok true W) := Lib.hid (fun W => by
    have := eq_bytes (P := Tryd.prog) Tryd.underlying22 Tryd.underlying5 (by kernel_rfl) (by kernel_rfl) (by kernel_rfl) Z128 Z128 (by simp [Z128]) (by simp [Z128]) W
    rwa [decide_eq_true rfl, Z128_cells] at this)
  have HES : Hid (∀ x : List UInt8, ∀ W, (Op.equalIn 10000 35 (.agg ((sumOf x).map B).toArray) (.agg ((sumOf bl).map B).toArray)).run Tryd.prog W = .ok (decide (sumOf x = sumOf bl)) W) := Lib.hid (fun x => eq_bytes (P := Tryd.prog) Tryd.underlying35 Tryd.underlying5 (by kernel_rfl) (by kernel_rfl) (by kernel_rfl) (sumOf x) (sumOf bl) (sumOf_length x) (sumOf_length bl))
  have HSU : Hid (∀ (x : List UInt8) (g : Nat) (W : World), x.length = 128 → Bk W g (x.map B).toArray 22 → Calls Tryd.prog 10 #[.slice (some ⟨g, 0, none⟩) 128 128] W fun e w' => e = .returned (.agg ((sumOf x).map B).toArray) ∧ Fr0 W w') := Lib.hid (fun x g W hx hb => rsum_calls (some ⟨g, 0, none⟩) 128 128 x W hx (Rd.block hb (fun i hi => by rw [Nat.zero_add]; simp [hi])) (by omega))
  have HZI : Hid (∀ x : List UInt8, x.length = 128 → (Tryd.prog.info? 22).map (·.size) = some (x.map B).toArray.size) := Lib.hid (fun x h => info_l h)
  have HZS : Hid (∀ x : List UInt8, x.length = 128 → ZB.size = (x.map B).toArray.size) := Lib.hid (fun x h => size_l h)
  have HZO : Hid (∀ x : List UInt8, (x.map B).toArray.all (·.oneCell') = true) := Lib.hid (fun x => one_l x)
  have HLI : Hid (∀ x : List UInt8, x.length = 128 → (Tryd.prog.info? 22).map (·.size) = some (x.map B).length) := Lib.hid (fun x h => by rw [info_b, List.length_map, h])
  have HSI : Hid ((Tryd.prog.info? 35).map (·.size) = some ((sumOf bl).map B).toArray.size) := Lib.hid (info_32 _ (sumOf_length bl))
  have HSS : Hid (Z32A.size = ((sumOf bl).map B).toArray.size) := Lib.hid (by simp [Z32A, sumOf_length])
  have HSO : Hid (((sumOf bl).map B).toArray.all (·.oneCell') = true) := Lib.hid (one_l _)
  have HBN := Lib.hid hbl
  have hsl := sumOf_length bl
  have HIP := Lib.hid (info_ptr 3 25 hsl)
  have HSP : Hid (PtrAsk.ZERO.size = (PC 3 25 (sumOf bl)).toArray.size) := Lib.hid (by
    have h : (PC 3 25 (sumOf bl)).toArray.size = 34 := by rw [List.size_toArray, PC_length, hsl]
    rw [h]; rfl)
  have HOP : Hid ((PC 3 25 (sumOf bl)).toArray.all (·.oneCell') = true) := Lib.hid (by
    rw [List.all_toArray]
    generalize sumOf bl = s
    simp [PC, Value.oneCell', B_def])
  have HID : Hid (∀ d a b c e, (Tryd.prog.info? 29).map (·.size) = some (dval d a b c e).size) := Lib.hid (fun _ _ _ _ _ => info_d)
  have HDO : Hid (∀ d a b c e, (dval d a b c e).all (·.oneCell') = true) := Lib.hid (fun _ _ _ _ _ => dval_one _ _ _ _ _)
  have HIZ : Hid ((Tryd.prog.info? 32).map (·.size) = some RZ.size) := Lib.hid (info_r _ _)
  have HY0 := Lib.hid (y_ne y0)
  have HY1 := Lib.hid (y_ne y1)
  have hzd : ∀ W, (zeroValue 29).run Tryd.prog W = .ok (.agg DZ) W := by intro W; kernel_rfl
  have hzp : ∀ W, (zeroValue 37).run Tryd.prog W = .ok (.agg PtrAsk.ZERO) W := by intro W; kernel_rfl
  have hz32 : ∀ W, (zeroValue 35).run Tryd.prog W = .ok (.agg Z32A) W := by intro W; kernel_rfl
  have hzr := zero_r
  have hzb := zero_bl
  clear hsh hT o0 o3 o4 o5 o6 o61 o7 hMA hsl hbl hx0 hx1
  generalize (PC 3 25 (sumOf bl)).toArray = PX at *
  generalize (two (G6 (tabL MA) bl) (bl.set 5 (bl.getD 5 0 ^^^ y0)) (bl.set 9 (bl.getD 9 0 ^^^ y1))) = D7 at *
  generalize ((setS (G6 (tabL MA) bl) 3 ⟨(bl.set 5 (bl.getD 5 0 ^^^ y0)), false, false⟩) : Dk) = D61 at *
  generalize (G6 (tabL MA) bl) = D6 at *
  generalize (G5 (tabL MA) bl) = D5 at *
  generalize (tabL MA) = TT at *
  generalize (bl.set 5 (bl.getD 5 0 ^^^ y0)) = x0 at *
  generalize (bl.set 9 (bl.getD 9 0 ^^^ y1)) = x1 at *
  have HF : Hid (Fr0 w w) := Lib.hid (Fr.refl _ _)
  have HOO : Hid (0 ≤ w.heap.size) := Lib.hid (Nat.zero_le _)
  have HW0 : Hid ((#[B y0, B y1] : Array Value)[0]? = some (.int .u8 y0.toNat)) := Lib.hid rfl
  have HW1 : Hid ((#[B y0, B y1] : Array Value)[1]? = some (.int .u8 y1.toNat)) := Lib.hid rfl
  generalize (#[B y0, B y1] : Array Value) = BW at *
  go_enter Tryd.func4, Tryd.ntmps4
  go_wp2_with (first | ((with_reducible show wpList _ _ _ ({ dst := _, op := Op.box 22 _, type := _, pos := _, after := _, guard := _ } :: _) _ w); refine wpList_box_w (by rfl) 22 _ rfl (.agg (bl.map B).toArray) rfl ?_; intro g1 w1 hb hf hl1 hl2; replace HOO := Lib.hid (And.intro HOO.out (show w.heap.size ≤ g1 from by have zHF := HF.out.size; have z := HOO.out; omega)); replace HF := Lib.hid (HF.out.then0 hf); have HB : Hid (Bk w1 g1 (bl.map B).toArray 22) := Lib.hid hb; clear hb hf hl1 hl2) | ((with_reducible show wpList _ _ _ ({ dst := _, op := Op.box 59 _, type := _, pos := _, after := _, guard := _ } :: _) _ w1); refine wpList_box_w (by rfl) 59 _ rfl (.agg BW) rfl ?_; intro g2 w2 hb hf hl1 hl2; replace HOO := Lib.hid (And.intro HOO.out (show w.heap.size ≤ g2 ∧ g1 < g2 from by have zHF := HF.out.size; have bHB := Bk.lt HB.out; have z := HOO.out; omega)); replace HF := Lib.hid (HF.out.then0 hf); replace HB := Lib.hid (Fr.keep hf HB.out (fun h => h)); have HW : Hid (Bk w2 g2 BW 59) := Lib.hid hb; clear hb hf hl1 hl2) | (go_at_call 5; (with_reducible refine (HAL.out _ HF.out).mono ?_); rintro e w3 ⟨rfl, hf⟩; replace HF := Lib.hid (HF.out.then0 hf); replace HB := Lib.hid (Fr.keep hf HB.out (fun h => h)); replace HW := Lib.hid (Fr.keep hf HW.out (fun h => h)); clear hf) | (go_at_call 6; (with_reducible refine (HFR.out _ HF.out).mono ?_); rintro e w4 ⟨sa, sc, ca, cc, rfl, hv1, hf⟩; replace HF := Lib.hid (HF.out.then0 hf); replace HB := Lib.hid (Fr.keep hf HB.out (fun h => h)); replace HW := Lib.hid (Fr.keep hf HW.out (fun h => h)); have HDV := Lib.hid hv1; have HF1 : Hid (Fr0 w4 w4) := Lib.hid (Fr.refl _ _); clear hf hv1) | ((with_reducible show wpList _ _ _ ({ dst := _, op := Op.alloc 29, type := _, pos := _, after := _, guard := _ } :: _) _ w4); refine wpList_alloc_w (by rfl) 29 rfl (.agg DZ) hzd ?_; intro g3 w5 hb hf hl1 hl2; replace HOO := Lib.hid (And.intro HOO.out (show w.heap.size ≤ g3 ∧ w4.heap.size ≤ g3 ∧ g1 < g3 ∧ g2 < g3 from by have zHF := HF.out.size; have zHF1 := HF1.out.size; have bHB := Bk.lt HB.out; have bHW := Bk.lt HW.out; have z := HOO.out; omega)); replace HF := Lib.hid (HF.out.then0 hf); replace HB := Lib.hid (Fr.keep hf HB.out (fun h => h)); replace HW := Lib.hid (Fr.keep hf HW.out (fun h => h)); replace HF1 := Lib.hid (HF1.out.then0 hf); have HD : Hid (Bk w5 g3 DZ 29) := Lib.hid hb; clear hb hf hl1 hl2) | ((with_reducible show wpList _ _ _ ({ dst := _, op := Op.alloc 32, type := _, pos := _, after := _, guard := _ } :: _) _ w5); refine wpList_alloc_w (by rfl) 32 rfl (.agg RZ) hzr ?_; intro g4 w6 hb hf hl1 hl2; replace HOO := Lib.hid (And.intro HOO.out (show w.heap.size ≤ g4 ∧ w4.heap.size ≤ g4 ∧ g1 < g4 ∧ g2 < g4 ∧ g3 < g4 from by have zHF := HF.out.size; have zHF1 := HF1.out.size; have bHB := Bk.lt HB.out; have bHW := Bk.lt HW.out; have bHD := Bk.lt HD.out; have z := HOO.out; omega)); replace HF := Lib.hid (HF.out.then0 hf); replace HB := Lib.hid (Fr.keep hf HB.out (fun h => h)); replace HW := Lib.hid (Fr.keep hf HW.out (fun h => h)); replace HF1 := Lib.hid (HF1.out.then0 hf); replace HD := Lib.hid (Fr.keep hf HD.out (fun h => h)); have HT : Hid (Bk w6 g4 RZ 32) := Lib.hid hb; clear hb hf hl1 hl2) | ((with_reducible show wpList _ _ _ ({ dst := _, op := Op.store 29 _ _, type := _, pos := _, after := _, guard := _ } :: _) _ w6); refine wpList_store_row_w (by rfl) 29 _ _ rfl g3 (dval (F3 TT) sa sc ca cc) rfl rfl 29 DZ HD.out (HID.out _ _ _ _ _) rfl (HDO.out _ _ _ _ _) ?_; intro w7 hb hf hl; replace HF := Lib.hid (HF.out.then hf (fun i hi e => by have z := HOO.out; omega)); replace HB := Lib.hid (Fr.keep hf HB.out (by have z := HOO.out; omega)); replace HW := Lib.hid (Fr.keep hf HW.out (by have z := HOO.out; omega)); replace HF1 := Lib.hid (HF1.out.then hf (fun i hi e => by have z := HOO.out; omega)); replace HT := Lib.hid (Fr.keep hf HT.out (by have z := HOO.out; omega)); replace HD := Lib.hid hb; clear hb hf hl) | ((with_reducible show wpList _ _ _ ({ dst := _, op := Op.store 32 _ _, type := _, pos := _, after := _, guard := _ } :: _) _ w7); refine wpList_store_row_w (by rfl) 32 _ _ rfl g4 RZ rfl rfl 32 RZ HT.out HIZ.out rfl (RC_all _ _ _ _) ?_; intro w8 hb hf hl; replace HF := Lib.hid (HF.out.then hf (fun i hi e => by have z := HOO.out; omega)); replace HB := Lib.hid (Fr.keep hf HB.out (by have z := HOO.out; omega)); replace HW := Lib.hid (Fr.keep hf HW.out (by have z := HOO.out; omega)); replace HF1 := Lib.hid (HF1.out.then hf (fun i hi e => by have z := HOO.out; omega)); replace HD := Lib.hid (Fr.keep hf HD.out (by have z := HOO.out; omega)); replace HT := Lib.hid hb; clear hb hf hl; have HP : Hid (PS w8 g3 g4 (F3 TT) MA) := Lib.hid (PS.of (a := none) (c := 0) ⟨HD.out, HDV.out.keep HF1.out⟩ HT.out (HRV.out _)); clear HDV HF1 HD HT) | ((with_reducible show wpList _ _ _ ({ dst := _, op := Op.load 22 _, type := _, pos := _, after := _, guard := _ } :: _) _ _); refine wpList_load_row_g (by rfl) 22 _ rfl g1 rfl 22 (bl.map B).toArray (0, 0) _ HB.out Tryd.underlying22 rfl (HZI.out _ HBN.out) ?_) | (go_at_call 7; (with_reducible refine (HPU.out _ _ _ (by have z := HOO.out; omega) HF.out HP.out).mono ?_); rintro e w9 ⟨rfl, hp, hf⟩; replace HF := Lib.hid (HF.out.then hf (fun i hi e => by have z := HOO.out; omega)); replace HB := Lib.hid (Fr.keep hf HB.out (by have z := HOO.out; omega)); replace HW := Lib.hid (Fr.keep hf HW.out (by have z := HOO.out; omega)); replace HP := Lib.hid hp; clear hf hp) | ((with_reducible show wpList _ _ _ ({ dst := _, op := Op.alloc 37, type := _, pos := _, after := _, guard := _ } :: _) _ w9); refine wpList_alloc_w (by rfl) 37 rfl (.agg PtrAsk.ZERO) hzp ?_; intro g5 w10 hb hf hl1 hl2; replace HOO := Lib.hid (And.intro HOO.out (show w.heap.size ≤ g5 ∧ g1 < g5 ∧ g2 < g5 ∧ g3 < g5 ∧ g4 < g5 from by have zHF := HF.out.size; have bHB := Bk.lt HB.out; have bHW := Bk.lt HW.out; have lHP := PS.wlt HP.out; have z := HOO.out; omega)); have HA1 : Hid (Bk w10 g5 PtrAsk.ZERO 37) := Lib.hid hb; have HA2 := Lib.hid hf; have HA3 : Hid (w9.heap.size ≤ g5) := Lib.hid hl1; clear hb hf hl1 hl2) | ((with_reducible show wpList _ _ _ ({ dst := _, op := Op.store 37 _ _, type := _, pos := _, after := _, guard := _ } :: _) _ w10); refine wpList_store_row_w (by rfl) 37 _ _ rfl g5 PX rfl rfl 37 PtrAsk.ZERO HA1.out HIP.out HSP.out HOP.out ?_; intro w11 hb hf hl; have hfc : Fr0 w9 w11 := HA2.out.then hf (fun i hi e => by have z := HA3.out; omega); replace HF := Lib.hid (HF.out.then0 hfc); replace HB := Lib.hid (Fr.keep hfc HB.out (fun h => h)); replace HW := Lib.hid (Fr.keep hfc HW.out (fun h => h)); replace HP := Lib.hid (HP.out.keep0 hfc); have HQ : Hid (Bk w11 g5 PX 37) := Lib.hid hb; clear hb hf hl hfc HA1 HA2 HA3) | (go_at_call 8; (with_reducible refine (HFL.out _ _ _ (by have z := HOO.out; omega) HP.out).mono ?_); rintro e w12 ⟨rfl, hp, hf⟩; replace HF := Lib.hid (HF.out.then hf (fun i hi e => by have z := HOO.out; omega)); replace HB := Lib.hid (Fr.keep hf HB.out (by have z := HOO.out; omega)); replace HW := Lib.hid (Fr.keep hf HW.out (by have z := HOO.out; omega)); replace HQ := Lib.hid (Fr.keep hf HQ.out (by have z := HOO.out; omega)); replace HP := Lib.hid hp; clear hf hp) | ((with_reducible show wpList _ _ _ ({ dst := _, op := Op.load 5 _, type := _, pos := _, after := _, guard := _ } :: _) _ _); refine wpList_load_cell_g (by rfl) 5 _ rfl g2 0 rfl (.int .u8 y0.toNat) _ ((Bk.cell HW.out 0).trans HW0.out) Tryd.underlying5 rfl ?_) | ((with_reducible show wpList _ _ _ ({ dst := _, op := Op.load 5 _, type := _, pos := _, after := _, guard := _ } :: _) _ _); refine wpList_load_cell_g (by rfl) 5 _ rfl g2 1 rfl (.int .u8 y1.toNat) _ ((Bk.cell HW.out 1).trans HW1.out) Tryd.underlying5 rfl ?_) | (go_at_call 9; (with_reducible refine (HH1.out _ _ _ (by have z := HOO.out; omega) HP.out).mono ?_); rintro e w13 ⟨rfl, hp, hf⟩; replace HF := Lib.hid (HF.out.then hf (fun i hi e => by have z := HOO.out; omega)); replace HB := Lib.hid (Fr.keep hf HB.out (by have z := HOO.out; omega)); replace HW := Lib.hid (Fr.keep hf HW.out (by have z := HOO.out; omega)); replace HQ := Lib.hid (Fr.keep hf HQ.out (by have z := HOO.out; omega)); replace HP := Lib.hid hp; clear hf hp) | (go_at_call 9; (with_reducible refine (HH2.out _ _ _ (by have z := HOO.out; omega) HP.out).mono ?_); rintro e w14 ⟨rfl, hp, hf⟩; replace HF := Lib.hid (HF.out.then hf (fun i hi e => by have z := HOO.out; omega)); replace HB := Lib.hid (Fr.keep hf HB.out (by have z := HOO.out; omega)); replace HW := Lib.hid (Fr.keep hf HW.out (by have z := HOO.out; omega)); replace HQ := Lib.hid (Fr.keep hf HQ.out (by have z := HOO.out; omega)); replace HP := Lib.hid hp; obtain ⟨sb, so, sc2, hc0, hsc, hr0⟩ := PS.sec hp 3 (by rw [HG7.out.1]; decide); obtain ⟨sb2, so2, sc3, hc1, -, hr1⟩ := PS.sec hp 25 (by rw [HG7.out.1]; decide); rw [HG7.out.2.1] at hr0; rw [HG7.out.2.2] at hr1; rw [HG7.out.1] at hc0 hc1 hsc; have hcc := Option.some.inj (hc0.symm.trans hc1); injection hcc with hcc1 hcc2 hcc3; injection hcc1 with hcc4; injection hcc4 with hcc5 hcc6 hcc7; subst hcc5 hcc6 hcc3; have HR0 := Lib.hid hr0; have HR1 := Lib.hid hr1; have HC0 := Lib.hid hc0; clear hc1 hr0 hr1 hc0; clear hf hp))
  try simp only [Act.put, zA, zB, zC, zD, zE, zF]
  rename_i K hKA
  have HRESTA : Hid (∀ (W : World) (pA pB : Nat), Fr0 w14 W → Bk W pA (x0.map B).toArray 22 → Bk W pB (x1.map B).toArray 22 → pA ≠ pB → w14.heap.size ≤ pA → w14.heap.size ≤ pB → K { tmps := #[Value.agg (List.map B bl).toArray, Value.bool true, Value.agg BW, Value.pointer (some ⟨g1, 0, none⟩), undef, Value.pointer (some ⟨g2, 0, none⟩), Value.bool false, Value.pointer (some ⟨g3, 0, none⟩), Value.pointer (some ⟨g4, 0, none⟩), Value.bool true, Value.int IntKind.i64 25, Value.pointer (some ⟨g5, 0, none⟩), Value.int IntKind.i64 0, Value.int IntKind.i64 0, .pointer (some ⟨pA, 0, none⟩), .pointer (some ⟨pB, 0, none⟩), undef, undef, undef, undef, undef, undef, undef, Value.bool true, Value.bool false, Value.tuple #[Value.agg (dval (F3 TT) sa sc ca cc), Value.agg RZ, Value.bool true], Value.tuple #[Value.agg (dval (F3 TT) sa sc ca cc), Value.agg RZ, Value.bool true], Value.agg (dval (F3 TT) sa sc ca cc), Value.agg RZ, Value.bool true, Value.bool true, Value.tuple #[Value.agg PX, Value.int IntKind.i64 0], Value.agg (List.map B bl).toArray, Value.int IntKind.i64 25, Value.tuple #[Value.agg PX, Value.int IntKind.i64 0], Value.agg PX, Value.int IntKind.i64 0, Value.int IntKind.i64 0, Value.bool true, Value.bool false, Value.bool false, Value.int IntKind.i64 0, Value.bool false, Value.bool false, Value.bool false, Value.int IntKind.i64 0, Value.bool false, Value.bool false, Value.pointer (some ⟨g2, 0, none⟩), Value.int IntKind.u8 ↑y0.toNat, Value.int IntKind.i64 0, Value.bool false, Value.bool false, Value.pointer (some ⟨g2, 1, none⟩), Value.int IntKind.u8 ↑y1.toNat, Value.int IntKind.i64 0, Value.bool false, Value.bool false, .pointer (some ⟨g3, 0, none⟩), .slice (some ⟨sb, so, none⟩) 60 sc2, .pointer (some ⟨sb, so + 390, none⟩), .pointer (some ⟨sb, so + 390, none⟩), .agg (x0.map B).toArray, .pointer (some ⟨g3, 0, none⟩), .slice (some ⟨sb, so, none⟩) 60 sc2, .pointer (some ⟨sb, so + 3250, none⟩), .pointer (some ⟨sb, so + 3250, none⟩), .agg (x1.map B).toArray, undef, undef, undef, undef, undef, undef, undef, undef, undef, undef, undef, undef, undef, undef, undef, undef, undef, undef, undef, undef, undef, undef, undef, undef, undef, undef, undef, undef, undef, undef, undef, undef, undef, undef, undef, undef, undef, undef, undef, undef, undef, undef, undef, undef, undef, undef, undef, undef, undef, undef, undef, undef, undef, undef, undef, undef, undef, undef, undef, undef, undef, undef, undef, undef, undef, undef, undef, undef], defers := [] } W) := Lib.hid (by
    as_aux_lemma =>
      intro w15 pA pB hf hz0 hz1 hpq hlo0 hlo1
      refine hKA _ _ ?_
      have HWP := Lib.hid (PS.wlt HP.out)
      replace HOO := Lib.hid (And.intro HOO.out (show g3 < pA ∧ g4 < pA ∧ g3 < pB ∧ g4 < pB ∧ w.heap.size ≤ pA ∧ w.heap.size ≤ pB ∧ pA ≠ pB from by have h1 := HWP.out; have h2 := HF.out.size; omega))
      replace HF := Lib.hid (HF.out.then0 hf)
      replace HB := Lib.hid (Fr.keep hf HB.out (fun h => h))
      replace HW := Lib.hid (Fr.keep hf HW.out (fun h => h))
      replace HP := Lib.hid (HP.out.keep0 hf)
      replace HQ := Lib.hid (Fr.keep hf HQ.out (fun h => h))
      have HXA := Lib.hid hz0
      have HXB := Lib.hid hz1
      clear hf hz0 hz1 hpq hlo0 hlo1 HWP
      go_wp2_with (first | (go_at_call 10; (with_reducible refine (HSU.out bl g1 _ HBN.out HB.out).mono ?_); rintro e w16 ⟨rfl, hf⟩; replace HF := Lib.hid (HF.out.then0 hf); replace HB := Lib.hid (Fr.keep hf HB.out (fun h => h)); replace HW := Lib.hid (Fr.keep hf HW.out (fun h => h)); replace HP := Lib.hid (HP.out.keep0 hf); replace HQ := Lib.hid (Fr.keep hf HQ.out (fun h => h)); replace HXA := Lib.hid (Fr.keep hf HXA.out (fun h => h)); replace HXB := Lib.hid (Fr.keep hf HXB.out (fun h => h)); clear hf) | ((with_reducible show wpList _ _ _ ({ dst := _, op := Op.alloc 35, type := _, pos := _, after := _, guard := _ } :: _) _ w16); refine wpList_alloc_w (by rfl) 35 rfl (.agg Z32A) hz32 ?_; intro g6 w17 hb hf hl1 hl2; replace HOO := Lib.hid (And.intro HOO.out (show w.heap.size ≤ g6 ∧ g1 < g6 ∧ g2 < g6 ∧ g5 < g6 ∧ pA < g6 ∧ pB < g6 ∧ g3 < g6 ∧ g4 < g6 from by have zHF := HF.out.size; have bHB := Bk.lt HB.out; have bHW := Bk.lt HW.out; have bHQ := Bk.lt HQ.out; have bHXA := Bk.lt HXA.out; have bHXB := Bk.lt HXB.out; have lHP := PS.wlt HP.out; have z := HOO.out; omega)); have HA1 : Hid (Bk w17 g6 Z32A 35) := Lib.hid hb; have HA2 := Lib.hid hf; have HA3 : Hid (w16.heap.size ≤ g6) := Lib.hid hl1; clear hb hf hl1 hl2) | ((with_reducible show wpList _ _ _ ({ dst := _, op := Op.store 35 _ _, type := _, pos := _, after := _, guard := _ } :: _) _ w17); refine wpList_store_row_w (by rfl) 35 _ _ rfl g6 ((sumOf bl).map B).toArray rfl rfl 35 Z32A HA1.out HSI.out HSS.out HSO.out ?_; intro w18 hb hf hl; have hfc : Fr0 w16 w18 := HA2.out.then hf (fun i hi e => by have z := HA3.out; omega); replace HF := Lib.hid (HF.out.then0 hfc); replace HB := Lib.hid (Fr.keep hfc HB.out (fun h => h)); replace HW := Lib.hid (Fr.keep hfc HW.out (fun h => h)); replace HP := Lib.hid (HP.out.keep0 hfc); replace HQ := Lib.hid (Fr.keep hfc HQ.out (fun h => h)); replace HXA := Lib.hid (Fr.keep hfc HXA.out (fun h => h)); replace HXB := Lib.hid (Fr.keep hfc HXB.out (fun h => h)); have HSM : Hid (Bk w18 g6 ((sumOf bl).map B).toArray 35) := Lib.hid hb; clear hb hf hl hfc HA1 HA2 HA3))
      try simp only [Act.put, zA, zB, zC, zD, zE, zF]
      rename_i K2 hKB
      have HRESTB : Hid (∀ (W : World), (x0 ≠ bl → sumOf x0 ≠ sumOf bl) → (x1 ≠ bl → sumOf x1 ≠ sumOf bl) → ∀ (u70 u71 u72 u73 u74 u75 u76 u77 u78 u79 u80 u81 u82 u83 u84 u85 u86 u87 u88 : Value), Bk W pA (x0.map B).toArray 22 ∧ Bk W pB (x1.map B).toArray 22 ∧ Bk W g1 (bl.map B).toArray 22 ∧ Bk W g6 ((sumOf bl).map B).toArray 35 ∧ Fr0 w18 W → K2 { tmps := #[Value.agg (List.map B bl).toArray, Value.bool true, Value.agg BW, Value.pointer (some ⟨g1, 0, none⟩), undef, Value.pointer (some ⟨g2, 0, none⟩), Value.bool false, Value.pointer (some ⟨g3, 0, none⟩), Value.pointer (some ⟨g4, 0, none⟩), Value.bool true, Value.int IntKind.i64 25, Value.pointer (some ⟨g5, 0, none⟩), Value.int IntKind.i64 0, Value.int IntKind.i64 0, Value.pointer (some ⟨pA, 0, none⟩), Value.pointer (some ⟨pB, 0, none⟩), Value.pointer (some ⟨g6, 0, none⟩), undef, undef, undef, undef, undef, undef, Value.bool true, Value.bool false, Value.tuple #[Value.agg (dval (F3 TT) sa sc ca cc), Value.agg RZ, Value.bool true], Value.tuple #[Value.agg (dval (F3 TT) sa sc ca cc), Value.agg RZ, Value.bool true], Value.agg (dval (F3 TT) sa sc ca cc), Value.agg RZ, Value.bool true, Value.bool true, Value.tuple #[Value.agg PX, Value.int IntKind.i64 0], Value.agg (List.map B bl).toArray, Value.int IntKind.i64 25, Value.tuple #[Value.agg PX, Value.int IntKind.i64 0], Value.agg PX, Value.int IntKind.i64 0, Value.int IntKind.i64 0, Value.bool true, Value.bool false, Value.bool false, Value.int IntKind.i64 0, Value.bool false, Value.bool false, Value.bool false, Value.int IntKind.i64 0, Value.bool false, Value.bool false, Value.pointer (some ⟨g2, 0, none⟩), Value.int IntKind.u8 ↑y0.toNat, Value.int IntKind.i64 0, Value.bool false, Value.bool false, Value.pointer (some ⟨g2, 1, none⟩), Value.int IntKind.u8 ↑y1.toNat, Value.int IntKind.i64 0, Value.bool false, Value.bool false, Value.pointer (some ⟨g3, 0, none⟩), Value.slice (some { block := sb, off := so }) 60 sc2, Value.pointer (some { block := sb, off := so + 390 }), Value.pointer (some { block := sb, off := so + 390 }), Value.agg (List.map B x0).toArray, Value.pointer (some ⟨g3, 0, none⟩), Value.slice (some { block := sb, off := so }) 60 sc2, Value.pointer (some { block := sb, off := so + 3250 }), Value.pointer (some { block := sb, off := so + 3250 }), Value.agg (List.map B x1).toArray, Value.slice (some ⟨g1, 0, none⟩) 128 128, Value.agg (List.map B (sumOf bl)).toArray, u70, u71, u72, u73, u74, u75, u76, u77, u78, u79, u80, u81, u82, u83, u84, u85, u86, u87, u88, .bool false, undef, undef, undef, undef, undef, undef, undef, undef, undef, undef, undef, undef, undef, undef, undef, undef, undef, undef, undef, undef, undef, undef, undef, undef, undef, undef, undef, undef, undef, undef, undef, undef, undef, undef, undef, undef, undef, undef, undef, undef, undef, undef, undef, undef, undef, undef], defers := [] } W) := Lib.hid (by
        as_aux_lemma =>
          intro w19 hs0 hs1 u70 u71 u72 u73 u74 u75 u76 u77 u78 u79 u80 u81 u82 u83 u84 u85 u86 u87 u88 hS
          refine hKB _ _ ?_
          have hfe := (hS).2.2.2.2
          replace HF := Lib.hid (HF.out.then0 hfe)
          replace HB := Lib.hid (Fr.keep hfe HB.out (fun h => h))
          replace HW := Lib.hid (Fr.keep hfe HW.out (fun h => h))
          replace HP := Lib.hid (HP.out.keep0 hfe)
          replace HQ := Lib.hid (Fr.keep hfe HQ.out (fun h => h))
          replace HXA := Lib.hid (Fr.keep hfe HXA.out (fun h => h))
          replace HXB := Lib.hid (Fr.keep hfe HXB.out (fun h => h))
          replace HSM := Lib.hid (Fr.keep hfe HSM.out (fun h => h))
          clear hfe hS
          obtain ⟨gb, n, ge, rx, ry, rz, he, D8, D9, hgl, hget, hlook, hbad, hgood⟩ := HPL.out hs0 hs1
          have HGL := Lib.hid hgl
          have HGE := Lib.hid hget
          have HLO := Lib.hid hlook
          clear hgl hget hlook hs0 hs1 HPL
          by_cases h0 : y0 = 0
          · have z0 : ((y0.toNat : Int) != 0) = false := by rw [HY0.out]; simp [h0]
            obtain ⟨rfl, rfl, rfl⟩ := hgood (by simp [h0])
            clear hbad hgood
            have HEB : Hid (∀ W, (Op.equalIn 10000 22 (.agg (gb.map B).toArray) (.agg (gb.map B).toArray)).run Tryd.prog W = .ok true W) := Lib.hid (fun W => by have := HEQ.out gb HBN.out W; rwa [decide_eq_true rfl] at this)
            go_wp2_with (first | ((with_reducible show wpList _ _ _ ({ dst := _, op := Op.load 5 _, type := _, pos := _, after := _, guard := _ } :: _) _ _); refine wpList_load_cell_g (by rfl) 5 _ rfl g2 0 rfl (.int .u8 y0.toNat) _ ((Bk.cell HW.out 0).trans HW0.out) Tryd.underlying5 rfl ?_) | ((with_reducible show wpList _ _ _ ({ dst := _, op := Op.load 5 _, type := _, pos := _, after := _, guard := _ } :: _) _ _); refine wpList_load_cell_g (by rfl) 5 _ rfl g2 1 rfl (.int .u8 y1.toNat) _ ((Bk.cell HW.out 1).trans HW1.out) Tryd.underlying5 rfl ?_) | ((with_reducible show wpList _ _ _ ({ dst := _, op := Op.load 37 _, type := _, pos := _, after := _, guard := _ } :: _) _ _); refine wpList_load_row_g (by rfl) 37 _ rfl g5 rfl 37 PX (0, 0) _ HQ.out Tryd.underlying37 rfl HIP.out ?_) | (go_at_call 11; (with_reducible refine (HGE.out _ _ _ (by have z := HOO.out; omega) HF.out HP.out).mono ?_); rintro e w20 ⟨rfl, hp, hf⟩; replace HF := Lib.hid (HF.out.then hf (fun i hi e => by have z := HOO.out; omega)); replace HB := Lib.hid (Fr.keep hf HB.out (by have z := HOO.out; omega)); replace HW := Lib.hid (Fr.keep hf HW.out (by have z := HOO.out; omega)); replace HQ := Lib.hid (Fr.keep hf HQ.out (by have z := HOO.out; omega)); replace HXA := Lib.hid (Fr.keep hf HXA.out (by have z := HOO.out; omega)); replace HXB := Lib.hid (Fr.keep hf HXB.out (by have z := HOO.out; omega)); replace HSM := Lib.hid (Fr.keep hf HSM.out (by have z := HOO.out; omega)); replace HP := Lib.hid hp; clear hf hp) | ((with_reducible show wpList _ _ _ ({ dst := _, op := Op.alloc 22, type := _, pos := _, after := _, guard := _ } :: _) _ w20); refine wpList_alloc_w (by rfl) 22 rfl (.agg ZB) hzb ?_; intro g7 w21 hb hf hl1 hl2; replace HOO := Lib.hid (And.intro HOO.out (show w.heap.size ≤ g7 ∧ g1 < g7 ∧ g2 < g7 ∧ g5 < g7 ∧ pA < g7 ∧ pB < g7 ∧ g6 < g7 ∧ g3 < g7 ∧ g4 < g7 from by have zHF := HF.out.size; have bHB := Bk.lt HB.out; have bHW := Bk.lt HW.out; have bHQ := Bk.lt HQ.out; have bHXA := Bk.lt HXA.out; have bHXB := Bk.lt HXB.out; have bHSM := Bk.lt HSM.out; have lHP := PS.wlt HP.out; have z := HOO.out; omega)); have HA1 : Hid (Bk w21 g7 ZB 22) := Lib.hid hb; have HA2 := Lib.hid hf; have HA3 : Hid (w20.heap.size ≤ g7) := Lib.hid hl1; clear hb hf hl1 hl2) | ((with_reducible show wpList _ _ _ ({ dst := _, op := Op.store 22 _ _, type := _, pos := _, after := _, guard := _ } :: _) _ w21); refine wpList_store_row_w (by rfl) 22 _ _ rfl g7 (gb.map B).toArray rfl rfl 22 ZB HA1.out (HZI.out _ HBN.out) (HZS.out _ HBN.out) (HZO.out _) ?_; intro w22 hb hf hl; have hfc : Fr0 w20 w22 := HA2.out.then hf (fun i hi e => by have z := HA3.out; omega); replace HF := Lib.hid (HF.out.then0 hfc); replace HB := Lib.hid (Fr.keep hfc HB.out (fun h => h)); replace HW := Lib.hid (Fr.keep hfc HW.out (fun h => h)); replace HP := Lib.hid (HP.out.keep0 hfc); replace HQ := Lib.hid (Fr.keep hfc HQ.out (fun h => h)); replace HXA := Lib.hid (Fr.keep hfc HXA.out (fun h => h)); replace HXB := Lib.hid (Fr.keep hfc HXB.out (fun h => h)); replace HSM := Lib.hid (Fr.keep hfc HSM.out (fun h => h)); have HC : Hid (Bk w22 g7 (gb.map B).toArray 22) := Lib.hid hb; clear hb hf hl hfc HA1 HA2 HA3) | (go_at_call 12; (with_reducible refine (HLO.out _ _ _ (by have z := HOO.out; omega) HF.out HP.out).mono ?_); rintro e w23 ⟨rfl, hp, hf⟩; replace HF := Lib.hid (HF.out.then hf (fun i hi e => by have z := HOO.out; omega)); replace HB := Lib.hid (Fr.keep hf HB.out (by have z := HOO.out; omega)); replace HW := Lib.hid (Fr.keep hf HW.out (by have z := HOO.out; omega)); replace HQ := Lib.hid (Fr.keep hf HQ.out (by have z := HOO.out; omega)); replace HXA := Lib.hid (Fr.keep hf HXA.out (by have z := HOO.out; omega)); replace HXB := Lib.hid (Fr.keep hf HXB.out (by have z := HOO.out; omega)); replace HSM := Lib.hid (Fr.keep hf HSM.out (by have z := HOO.out; omega)); replace HC := Lib.hid (Fr.keep hf HC.out (by have z := HOO.out; omega)); replace HP := Lib.hid hp; clear hf hp) | ((with_reducible show wpList _ _ _ ({ dst := _, op := Op.alloc 53, type := _, pos := _, after := _, guard := _ } :: _) _ w23); refine wpList_alloc_w (by rfl) 53 rfl (.agg (RP 0 0 0)) zero_rp ?_; intro g8 w24 hb hf hl1 hl2; replace HOO := Lib.hid (And.intro HOO.out (show w.heap.size ≤ g8 ∧ g1 < g8 ∧ g2 < g8 ∧ g5 < g8 ∧ pA < g8 ∧ pB < g8 ∧ g6 < g8 ∧ g7 < g8 ∧ g3 < g8 ∧ g4 < g8 from by have zHF := HF.out.size; have bHB := Bk.lt HB.out; have bHW := Bk.lt HW.out; have bHQ := Bk.lt HQ.out; have bHXA := Bk.lt HXA.out; have bHXB := Bk.lt HXB.out; have bHSM := Bk.lt HSM.out; have bHC := Bk.lt HC.out; have lHP := PS.wlt HP.out; have z := HOO.out; omega)); have HA1 : Hid (Bk w24 g8 (RP 0 0 0) 53) := Lib.hid hb; have HA2 := Lib.hid hf; have HA3 : Hid (w23.heap.size ≤ g8) := Lib.hid hl1; clear hb hf hl1 hl2) | ((with_reducible show wpList _ _ _ ({ dst := _, op := Op.store 53 _ _, type := _, pos := _, after := _, guard := _ } :: _) _ w24); refine wpList_store_row_w (by rfl) 53 _ _ rfl g8 (RP rx ry rz) rfl rfl 53 (RP 0 0 0) HA1.out (info_rp rx ry rz) rfl (one_rp rx ry rz) ?_; intro w25 hb hf hl; have hfc : Fr0 w23 w25 := HA2.out.then hf (fun i hi e => by have z := HA3.out; omega); replace HF := Lib.hid (HF.out.then0 hfc); replace HB := Lib.hid (Fr.keep hfc HB.out (fun h => h)); replace HW := Lib.hid (Fr.keep hfc HW.out (fun h => h)); replace HP := Lib.hid (HP.out.keep0 hfc); replace HQ := Lib.hid (Fr.keep hfc HQ.out (fun h => h)); replace HXA := Lib.hid (Fr.keep hfc HXA.out (fun h => h)); replace HXB := Lib.hid (Fr.keep hfc HXB.out (fun h => h)); replace HSM := Lib.hid (Fr.keep hfc HSM.out (fun h => h)); replace HC := Lib.hid (Fr.keep hfc HC.out (fun h => h)); have HL : Hid (Bk w25 g8 (RP rx ry rz) 53) := Lib.hid hb; clear hb hf hl hfc HA1 HA2 HA3) | ((with_reducible show wpList _ _ _ ({ dst := _, op := Op.load 22 _, type := _, pos := _, after := _, guard := _ } :: _) _ _); refine wpList_load_row_g (by rfl) 22 _ rfl g7 rfl 22 (gb.map B).toArray (0, 0) _ HC.out Tryd.underlying22 rfl (HZI.out _ HBN.out) ?_) | ((with_reducible show wpList _ _ _ ({ dst := _, op := Op.load 22 _, type := _, pos := _, after := _, guard := _ } :: _) _ _); refine wpList_load_row_g (by rfl) 22 _ rfl g1 rfl 22 (gb.map B).toArray (0, 0) _ HB.out Tryd.underlying22 rfl (HZI.out _ HBN.out) ?_) | ((with_reducible show wpList _ _ _ ({ dst := _, op := Op.binOp .eql 22 _ _ _, type := _, pos := _, after := _, guard := _ } :: _) _ _); refine wpList_eql_g (by rfl) rfl rfl rfl guard_b HEB.out ?_))
            go_ret
            exact ⟨rfl, HF.out⟩
          · by_cases h1 : y1 = 0
            · have z0 : ((y0.toNat : Int) != 0) = true := by rw [HY0.out]; simp [h0]
              have z1 : ((y1.toNat : Int) != 0) = false := by rw [HY1.out]; simp [h1]
              obtain ⟨rfl, rfl, rfl⟩ := hgood (by simp [h1])
              clear hbad hgood
              have HEB : Hid (∀ W, (Op.equalIn 10000 22 (.agg (gb.map B).toArray) (.agg (gb.map B).toArray)).run Tryd.prog W = .ok true W) := Lib.hid (fun W => by have := HEQ.out gb HBN.out W; rwa [decide_eq_true rfl] at this)
              go_wp2_with (first | ((with_reducible show wpList _ _ _ ({ dst := _, op := Op.load 5 _, type := _, pos := _, after := _, guard := _ } :: _) _ _); refine wpList_load_cell_g (by rfl) 5 _ rfl g2 0 rfl (.int .u8 y0.toNat) _ ((Bk.cell HW.out 0).trans HW0.out) Tryd.underlying5 rfl ?_) | ((with_reducible show wpList _ _ _ ({ dst := _, op := Op.load 5 _, type := _, pos := _, after := _, guard := _ } :: _) _ _); refine wpList_load_cell_g (by rfl) 5 _ rfl g2 1 rfl (.int .u8 y1.toNat) _ ((Bk.cell HW.out 1).trans HW1.out) Tryd.underlying5 rfl ?_) | ((with_reducible show wpList _ _ _ ({ dst := _, op := Op.load 37 _, type := _, pos := _, after := _, guard := _ } :: _) _ _); refine wpList_load_row_g (by rfl) 37 _ rfl g5 rfl 37 PX (0, 0) _ HQ.out Tryd.underlying37 rfl HIP.out ?_) | (go_at_call 11; (with_reducible refine (HGE.out _ _ _ (by have z := HOO.out; omega) HF.out HP.out).mono ?_); rintro e w20 ⟨rfl, hp, hf⟩; replace HF := Lib.hid (HF.out.then hf (fun i hi e => by have z := HOO.out; omega)); replace HB := Lib.hid (Fr.keep hf HB.out (by have z := HOO.out; omega)); replace HW := Lib.hid (Fr.keep hf HW.out (by have z := HOO.out; omega)); replace HQ := Lib.hid (Fr.keep hf HQ.out (by have z := HOO.out; omega)); replace HXA := Lib.hid (Fr.keep hf HXA.out (by have z := HOO.out; omega)); replace HXB := Lib.hid (Fr.keep hf HXB.out (by have z := HOO.out; omega)); replace HSM := Lib.hid (Fr.keep hf HSM.out (by have z := HOO.out; omega)); replace HP := Lib.hid hp; clear hf hp) | ((with_reducible show wpList _ _ _ ({ dst := _, op := Op.alloc 22, type := _, pos := _, after := _, guard := _ } :: _) _ w20); refine wpList_alloc_w (by rfl) 22 rfl (.agg ZB) hzb ?_; intro g7 w21 hb hf hl1 hl2; replace HOO := Lib.hid (And.intro HOO.out (show w.heap.size ≤ g7 ∧ g1 < g7 ∧ g2 < g7 ∧ g5 < g7 ∧ pA < g7 ∧ pB < g7 ∧ g6 < g7 ∧ g3 < g7 ∧ g4 < g7 from by have zHF := HF.out.size; have bHB := Bk.lt HB.out; have bHW := Bk.lt HW.out; have bHQ := Bk.lt HQ.out; have bHXA := Bk.lt HXA.out; have bHXB := Bk.lt HXB.out; have bHSM := Bk.lt HSM.out; have lHP := PS.wlt HP.out; have z := HOO.out; omega)); have HA1 : Hid (Bk w21 g7 ZB 22) := Lib.hid hb; have HA2 := Lib.hid hf; have HA3 : Hid (w20.heap.size ≤ g7) := Lib.hid hl1; clear hb hf hl1 hl2) | ((with_reducible show wpList _ _ _ ({ dst := _, op := Op.store 22 _ _, type := _, pos := _, after := _, guard := _ } :: _) _ w21); refine wpList_store_row_w (by rfl) 22 _ _ rfl g7 (gb.map B).toArray rfl rfl 22 ZB HA1.out (HZI.out _ HBN.out) (HZS.out _ HBN.out) (HZO.out _) ?_; intro w22 hb hf hl; have hfc : Fr0 w20 w22 := HA2.out.then hf (fun i hi e => by have z := HA3.out; omega); replace HF := Lib.hid (HF.out.then0 hfc); replace HB := Lib.hid (Fr.keep hfc HB.out (fun h => h)); replace HW := Lib.hid (Fr.keep hfc HW.out (fun h => h)); replace HP := Lib.hid (HP.out.keep0 hfc); replace HQ := Lib.hid (Fr.keep hfc HQ.out (fun h => h)); replace HXA := Lib.hid (Fr.keep hfc HXA.out (fun h => h)); replace HXB := Lib.hid (Fr.keep hfc HXB.out (fun h => h)); replace HSM := Lib.hid (Fr.keep hfc HSM.out (fun h => h)); have HC : Hid (Bk w22 g7 (gb.map B).toArray 22) := Lib.hid hb; clear hb hf hl hfc HA1 HA2 HA3) | (go_at_call 12; (with_reducible refine (HLO.out _ _ _ (by have z := HOO.out; omega) HF.out HP.out).mono ?_); rintro e w23 ⟨rfl, hp, hf⟩; replace HF := Lib.hid (HF.out.then hf (fun i hi e => by have z := HOO.out; omega)); replace HB := Lib.hid (Fr.keep hf HB.out (by have z := HOO.out; omega)); replace HW := Lib.hid (Fr.keep hf HW.out (by have z := HOO.out; omega)); replace HQ := Lib.hid (Fr.keep hf HQ.out (by have z := HOO.out; omega)); replace HXA := Lib.hid (Fr.keep hf HXA.out (by have z := HOO.out; omega)); replace HXB := Lib.hid (Fr.keep hf HXB.out (by have z := HOO.out; omega)); replace HSM := Lib.hid (Fr.keep hf HSM.out (by have z := HOO.out; omega)); replace HC := Lib.hid (Fr.keep hf HC.out (by have z := HOO.out; omega)); replace HP := Lib.hid hp; clear hf hp) | ((with_reducible show wpList _ _ _ ({ dst := _, op := Op.alloc 53, type := _, pos := _, after := _, guard := _ } :: _) _ w23); refine wpList_alloc_w (by rfl) 53 rfl (.agg (RP 0 0 0)) zero_rp ?_; intro g8 w24 hb hf hl1 hl2; replace HOO := Lib.hid (And.intro HOO.out (show w.heap.size ≤ g8 ∧ g1 < g8 ∧ g2 < g8 ∧ g5 < g8 ∧ pA < g8 ∧ pB < g8 ∧ g6 < g8 ∧ g7 < g8 ∧ g3 < g8 ∧ g4 < g8 from by have zHF := HF.out.size; have bHB := Bk.lt HB.out; have bHW := Bk.lt HW.out; have bHQ := Bk.lt HQ.out; have bHXA := Bk.lt HXA.out; have bHXB := Bk.lt HXB.out; have bHSM := Bk.lt HSM.out; have bHC := Bk.lt HC.out; have lHP := PS.wlt HP.out; have z := HOO.out; omega)); have HA1 : Hid (Bk w24 g8 (RP 0 0 0) 53) := Lib.hid hb; have HA2 := Lib.hid hf; have HA3 : Hid (w23.heap.size ≤ g8) := Lib.hid hl1; clear hb hf hl1 hl2) | ((with_reducible show wpList _ _ _ ({ dst := _, op := Op.store 53 _ _, type := _, pos := _, after := _, guard := _ } :: _) _ w24); refine wpList_store_row_w (by rfl) 53 _ _ rfl g8 (RP rx ry rz) rfl rfl 53 (RP 0 0 0) HA1.out (info_rp rx ry rz) rfl (one_rp rx ry rz) ?_; intro w25 hb hf hl; have hfc : Fr0 w23 w25 := HA2.out.then hf (fun i hi e => by have z := HA3.out; omega); replace HF := Lib.hid (HF.out.then0 hfc); replace HB := Lib.hid (Fr.keep hfc HB.out (fun h => h)); replace HW := Lib.hid (Fr.keep hfc HW.out (fun h => h)); replace HP := Lib.hid (HP.out.keep0 hfc); replace HQ := Lib.hid (Fr.keep hfc HQ.out (fun h => h)); replace HXA := Lib.hid (Fr.keep hfc HXA.out (fun h => h)); replace HXB := Lib.hid (Fr.keep hfc HXB.out (fun h => h)); replace HSM := Lib.hid (Fr.keep hfc HSM.out (fun h => h)); replace HC := Lib.hid (Fr.keep hfc HC.out (fun h => h)); have HL : Hid (Bk w25 g8 (RP rx ry rz) 53) := Lib.hid hb; clear hb hf hl hfc HA1 HA2 HA3) | ((with_reducible show wpList _ _ _ ({ dst := _, op := Op.load 22 _, type := _, pos := _, after := _, guard := _ } :: _) _ _); refine wpList_load_row_g (by rfl) 22 _ rfl g7 rfl 22 (gb.map B).toArray (0, 0) _ HC.out Tryd.underlying22 rfl (HZI.out _ HBN.out) ?_) | ((with_reducible show wpList _ _ _ ({ dst := _, op := Op.load 22 _, type := _, pos := _, after := _, guard := _ } :: _) _ _); refine wpList_load_row_g (by rfl) 22 _ rfl g1 rfl 22 (gb.map B).toArray (0, 0) _ HB.out Tryd.underlying22 rfl (HZI.out _ HBN.out) ?_) | ((with_reducible show wpList _ _ _ ({ dst := _, op := Op.binOp .eql 22 _ _ _, type := _, pos := _, after := _, guard := _ } :: _) _ _); refine wpList_eql_g (by rfl) rfl rfl rfl guard_b HEB.out ?_))
              go_ret
              exact ⟨rfl, HF.out⟩
            · have z0 : ((y0.toNat : Int) != 0) = true := by rw [HY0.out]; simp [h0]
              have z1 : ((y1.toNat : Int) != 0) = true := by rw [HY1.out]; simp [h1]
              obtain ⟨rfl, rfl, rfl⟩ := hbad (by simp [h0, h1])
              clear hbad hgood
              have HIZB : Hid ((Tryd.prog.info? 22).map (·.size) = some ZB.size) := Lib.hid (by have := HZI.out Z128 HGL.out; rwa [Z128_cells] at this)
              have HOZB : Hid (ZB.all (·.oneCell') = true) := Lib.hid (by have := HZO.out Z128; rwa [Z128_cells] at this)
              rw [Z128_cells] at HGE
              go_wp2_with (first | ((with_reducible show wpList _ _ _ ({ dst := _, op := Op.load 5 _, type := _, pos := _, after := _, guard := _ } :: _) _ _); refine wpList_load_cell_g (by rfl) 5 _ rfl g2 0 rfl (.int .u8 y0.toNat) _ ((Bk.cell HW.out 0).trans HW0.out) Tryd.underlying5 rfl ?_) | ((with_reducible show wpList _ _ _ ({ dst := _, op := Op.load 5 _, type := _, pos := _, after := _, guard := _ } :: _) _ _); refine wpList_load_cell_g (by rfl) 5 _ rfl g2 1 rfl (.int .u8 y1.toNat) _ ((Bk.cell HW.out 1).trans HW1.out) Tryd.underlying5 rfl ?_) | ((with_reducible show wpList _ _ _ ({ dst := _, op := Op.load 37 _, type := _, pos := _, after := _, guard := _ } :: _) _ _); refine wpList_load_row_g (by rfl) 37 _ rfl g5 rfl 37 PX (0, 0) _ HQ.out Tryd.underlying37 rfl HIP.out ?_) | (go_at_call 11; (with_reducible refine (HGE.out _ _ _ (by have z := HOO.out; omega) HF.out HP.out).mono ?_); rintro e w20 ⟨rfl, hp, hf⟩; replace HF := Lib.hid (HF.out.then hf (fun i hi e => by have z := HOO.out; omega)); replace HB := Lib.hid (Fr.keep hf HB.out (by have z := HOO.out; omega)); replace HW := Lib.hid (Fr.keep hf HW.out (by have z := HOO.out; omega)); replace HQ := Lib.hid (Fr.keep hf HQ.out (by have z := HOO.out; omega)); replace HXA := Lib.hid (Fr.keep hf HXA.out (by have z := HOO.out; omega)); replace HXB := Lib.hid (Fr.keep hf HXB.out (by have z := HOO.out; omega)); replace HSM := Lib.hid (Fr.keep hf HSM.out (by have z := HOO.out; omega)); replace HP := Lib.hid hp; clear hf hp) | ((with_reducible show wpList _ _ _ ({ dst := _, op := Op.alloc 22, type := _, pos := _, after := _, guard := _ } :: _) _ w20); refine wpList_alloc_w (by rfl) 22 rfl (.agg ZB) hzb ?_; intro g7 w21 hb hf hl1 hl2; replace HOO := Lib.hid (And.intro HOO.out (show w.heap.size ≤ g7 ∧ g1 < g7 ∧ g2 < g7 ∧ g5 < g7 ∧ pA < g7 ∧ pB < g7 ∧ g6 < g7 ∧ g3 < g7 ∧ g4 < g7 from by have zHF := HF.out.size; have bHB := Bk.lt HB.out; have bHW := Bk.lt HW.out; have bHQ := Bk.lt HQ.out; have bHXA := Bk.lt HXA.out; have bHXB := Bk.lt HXB.out; have bHSM := Bk.lt HSM.out; have lHP := PS.wlt HP.out; have z := HOO.out; omega)); have HA1 : Hid (Bk w21 g7 ZB 22) := Lib.hid hb; have HA2 := Lib.hid hf; have HA3 : Hid (w20.heap.size ≤ g7) := Lib.hid hl1; clear hb hf hl1 hl2) | ((with_reducible show wpList _ _ _ ({ dst := _, op := Op.store 22 _ _, type := _, pos := _, after := _, guard := _ } :: _) _ w21); refine wpList_store_row_w (by rfl) 22 _ _ rfl g7 ZB rfl rfl 22 ZB HA1.out HIZB.out rfl HOZB.out ?_; intro w22 hb hf hl; have hfc : Fr0 w20 w22 := HA2.out.then hf (fun i hi e => by have z := HA3.out; omega); replace HF := Lib.hid (HF.out.then0 hfc); replace HB := Lib.hid (Fr.keep hfc HB.out (fun h => h)); replace HW := Lib.hid (Fr.keep hfc HW.out (fun h => h)); replace HP := Lib.hid (HP.out.keep0 hfc); replace HQ := Lib.hid (Fr.keep hfc HQ.out (fun h => h)); replace HXA := Lib.hid (Fr.keep hfc HXA.out (fun h => h)); replace HXB := Lib.hid (Fr.keep hfc HXB.out (fun h => h)); replace HSM := Lib.hid (Fr.keep hfc HSM.out (fun h => h)); have HC : Hid (Bk w22 g7 ZB 22) := Lib.hid hb; clear hb hf hl hfc HA1 HA2 HA3) | (go_at_call 12; (with_reducible refine (HLO.out _ _ _ (by have z := HOO.out; omega) HF.out HP.out).mono ?_); rintro e w23 ⟨rfl, hp, hf⟩; replace HF := Lib.hid (HF.out.then hf (fun i hi e => by have z := HOO.out; omega)); replace HB := Lib.hid (Fr.keep hf HB.out (by have z := HOO.out; omega)); replace HW := Lib.hid (Fr.keep hf HW.out (by have z := HOO.out; omega)); replace HQ := Lib.hid (Fr.keep hf HQ.out (by have z := HOO.out; omega)); replace HXA := Lib.hid (Fr.keep hf HXA.out (by have z := HOO.out; omega)); replace HXB := Lib.hid (Fr.keep hf HXB.out (by have z := HOO.out; omega)); replace HSM := Lib.hid (Fr.keep hf HSM.out (by have z := HOO.out; omega)); replace HC := Lib.hid (Fr.keep hf HC.out (by have z := HOO.out; omega)); replace HP := Lib.hid hp; clear hf hp) | ((with_reducible show wpList _ _ _ ({ dst := _, op := Op.alloc 53, type := _, pos := _, after := _, guard := _ } :: _) _ w23); refine wpList_alloc_w (by rfl) 53 rfl (.agg (RP 0 0 0)) zero_rp ?_; intro g8 w24 hb hf hl1 hl2; replace HOO := Lib.hid (And.intro HOO.out (show w.heap.size ≤ g8 ∧ g1 < g8 ∧ g2 < g8 ∧ g5 < g8 ∧ pA < g8 ∧ pB < g8 ∧ g6 < g8 ∧ g7 < g8 ∧ g3 < g8 ∧ g4 < g8 from by have zHF := HF.out.size; have bHB := Bk.lt HB.out; have bHW := Bk.lt HW.out; have bHQ := Bk.lt HQ.out; have bHXA := Bk.lt HXA.out; have bHXB := Bk.lt HXB.out; have bHSM := Bk.lt HSM.out; have bHC := Bk.lt HC.out; have lHP := PS.wlt HP.out; have z := HOO.out; omega)); have HA1 : Hid (Bk w24 g8 (RP 0 0 0) 53) := Lib.hid hb; have HA2 := Lib.hid hf; have HA3 : Hid (w23.heap.size ≤ g8) := Lib.hid hl1; clear hb hf hl1 hl2) | ((with_reducible show wpList _ _ _ ({ dst := _, op := Op.store 53 _ _, type := _, pos := _, after := _, guard := _ } :: _) _ w24); refine wpList_store_row_w (by rfl) 53 _ _ rfl g8 (RP rx ry rz) rfl rfl 53 (RP 0 0 0) HA1.out (info_rp rx ry rz) rfl (one_rp rx ry rz) ?_; intro w25 hb hf hl; have hfc : Fr0 w23 w25 := HA2.out.then hf (fun i hi e => by have z := HA3.out; omega); replace HF := Lib.hid (HF.out.then0 hfc); replace HB := Lib.hid (Fr.keep hfc HB.out (fun h => h)); replace HW := Lib.hid (Fr.keep hfc HW.out (fun h => h)); replace HP := Lib.hid (HP.out.keep0 hfc); replace HQ := Lib.hid (Fr.keep hfc HQ.out (fun h => h)); replace HXA := Lib.hid (Fr.keep hfc HXA.out (fun h => h)); replace HXB := Lib.hid (Fr.keep hfc HXB.out (fun h => h)); replace HSM := Lib.hid (Fr.keep hfc HSM.out (fun h => h)); replace HC := Lib.hid (Fr.keep hfc HC.out (fun h => h)); have HL : Hid (Bk w25 g8 (RP rx ry rz) 53) := Lib.hid hb; clear hb hf hl hfc HA1 HA2 HA3) | ((with_reducible show wpList _ _ _ ({ dst := _, op := Op.load 22 _, type := _, pos := _, after := _, guard := _ } :: _) _ _); refine wpList_load_row_g (by rfl) 22 _ rfl g7 rfl 22 ZB (0, 0) _ HC.out Tryd.underlying22 rfl HIZB.out ?_) | ((with_reducible show wpList _ _ _ ({ dst := _, op := Op.build 22 _, type := _, pos := _, after := _, guard := _ } :: _) _ _); refine build_zb_g (by rfl) _ rfl ?_) | ((with_reducible show wpList _ _ _ ({ dst := _, op := Op.binOp .eql 22 _ _ _, type := _, pos := _, after := _, guard := _ } :: _) _ _); refine wpList_eql_g (by rfl) rfl rfl rfl guard_b HEZ.out ?_))
              go_ret
              exact ⟨rfl, HF.out⟩
        )
      have HRESTC : Hid (∀ (W : World) (u70 u71 u72 u73 u74 u75 u76 u77 u78 u79 u80 u81 u82 u83 u84 u85 u86 u87 u88 : Value), Fr0 w18 W → K2 { tmps := #[Value.agg (List.map B bl).toArray, Value.bool true, Value.agg BW, Value.pointer (some ⟨g1, 0, none⟩), undef, Value.pointer (some ⟨g2, 0, none⟩), Value.bool false, Value.pointer (some ⟨g3, 0, none⟩), Value.pointer (some ⟨g4, 0, none⟩), Value.bool true, Value.int IntKind.i64 25, Value.pointer (some ⟨g5, 0, none⟩), Value.int IntKind.i64 0, Value.int IntKind.i64 0, Value.pointer (some ⟨pA, 0, none⟩), Value.pointer (some ⟨pB, 0, none⟩), Value.pointer (some ⟨g6, 0, none⟩), undef, undef, undef, undef, undef, undef, Value.bool true, Value.bool false, Value.tuple #[Value.agg (dval (F3 TT) sa sc ca cc), Value.agg RZ, Value.bool true], Value.tuple #[Value.agg (dval (F3 TT) sa sc ca cc), Value.agg RZ, Value.bool true], Value.agg (dval (F3 TT) sa sc ca cc), Value.agg RZ, Value.bool true, Value.bool true, Value.tuple #[Value.agg PX, Value.int IntKind.i64 0], Value.agg (List.map B bl).toArray, Value.int IntKind.i64 25, Value.tuple #[Value.agg PX, Value.int IntKind.i64 0], Value.agg PX, Value.int IntKind.i64 0, Value.int IntKind.i64 0, Value.bool true, Value.bool false, Value.bool false, Value.int IntKind.i64 0, Value.bool false, Value.bool false, Value.bool false, Value.int IntKind.i64 0, Value.bool false, Value.bool false, Value.pointer (some ⟨g2, 0, none⟩), Value.int IntKind.u8 ↑y0.toNat, Value.int IntKind.i64 0, Value.bool false, Value.bool false, Value.pointer (some ⟨g2, 1, none⟩), Value.int IntKind.u8 ↑y1.toNat, Value.int IntKind.i64 0, Value.bool false, Value.bool false, Value.pointer (some ⟨g3, 0, none⟩), Value.slice (some { block := sb, off := so }) 60 sc2, Value.pointer (some { block := sb, off := so + 390 }), Value.pointer (some { block := sb, off := so + 390 }), Value.agg (List.map B x0).toArray, Value.pointer (some ⟨g3, 0, none⟩), Value.slice (some { block := sb, off := so }) 60 sc2, Value.pointer (some { block := sb, off := so + 3250 }), Value.pointer (some { block := sb, off := so + 3250 }), Value.agg (List.map B x1).toArray, Value.slice (some ⟨g1, 0, none⟩) 128 128, Value.agg (List.map B (sumOf bl)).toArray, u70, u71, u72, u73, u74, u75, u76, u77, u78, u79, u80, u81, u82, u83, u84, u85, u86, u87, u88, .bool true, undef, undef, undef, undef, undef, undef, undef, undef, undef, undef, undef, undef, undef, undef, undef, undef, undef, undef, undef, undef, undef, undef, undef, undef, undef, undef, undef, undef, undef, undef, undef, undef, undef, undef, undef, undef, undef, undef, undef, undef, undef, undef, undef, undef, undef, undef], defers := [] } W) := Lib.hid (by
        intro wz u70 u71 u72 u73 u74 u75 u76 u77 u78 u79 u80 u81 u82 u83 u84 u85 u86 u87 u88 hfz
        refine hKB _ _ ?_
        replace HF := Lib.hid (HF.out.then0 hfz)
        go_wp2
        go_ret
        exact ⟨rfl, HF.out⟩)
      clear hKB HPL
      have HEQ0 := Lib.hid (HEQ.out x0 HX0.out)
      have HEQ1 := Lib.hid (HEQ.out x1 HX1.out)
      have HES0 := Lib.hid (HES.out x0)
      have HES1 := Lib.hid (HES.out x1)
      by_cases e0 : x0 = bl
      · rw [decide_eq_true e0] at HEQ0
        have E0 := Lib.hid e0
        clear e0
        by_cases e1 : x1 = bl
        · rw [decide_eq_true e1] at HEQ1
          have E1 := Lib.hid e1
          clear e1
          refine wp_region_noPanic ?_
          refine wp_region_held_drew (S := (fun W : World => Bk W pA (x0.map B).toArray 22 ∧ Bk W pB (x1.map B).toArray 22 ∧ Bk W g1 (bl.map B).toArray 22 ∧ Bk W g6 ((sumOf bl).map B).toArray 35 ∧ Fr0 w18 W)) (by kernel_rfl) (⟨Fr.keep (Fr.drew (Fr.refl (fun _ => False) _)) HXA.out (fun h => h), Fr.keep (Fr.drew (Fr.refl (fun _ => False) _)) HXB.out (fun h => h), Fr.keep (Fr.drew (Fr.refl (fun _ => False) _)) HB.out (fun h => h), Fr.keep (Fr.drew (Fr.refl (fun _ => False) _)) HSM.out (fun h => h), Fr.drew (Fr.refl _ _)⟩) (fun hHeld0 => ?_)
          refine tk (i := 0) (v := .agg (x0.map B).toArray) rfl (yields_row (by kernel_rfl) 22 _ rfl (pA) rfl 22 (x0.map B).toArray (0, 0) _ (fun W h => (h).1) Tryd.underlying22 rfl (HZI.out _ HX0.out)) hHeld0 ?_
          simp only [Act.put, zA, zB, zC, zD, zE, zF]
          refine tk (i := 1) (v := .agg (bl.map B).toArray) rfl (yields_row (by kernel_rfl) 22 _ rfl (g1) rfl 22 (bl.map B).toArray (0, 0) _ (fun W h => (h).2.2.1) Tryd.underlying22 rfl (HZI.out _ HBN.out)) hHeld0 ?_
          simp only [Act.put, zA, zB, zC, zD, zE, zF]
          refine tk (i := 2) (v := .bool false) rfl (Or.inl ⟨by kernel_rfl, fun w hSw => DiskSame.run_neq_op rfl rfl rfl guard_b HEQ0.out w⟩) hHeld0 ?_
          simp only [Act.put, zA, zB, zC, zD, zE, zF]
          refine tk0 (i := 3) (v := .bool false) rfl hHeld0 ?_
          simp only [Act.put, zA, zB, zC, zD, zE, zF]
          refine tk (i := 4) (v := undef) rfl (Or.inr ⟨by kernel_rfl, rfl⟩) hHeld0 ?_
          simp only [Act.put, zA, zB, zC, zD, zE, zF]
          refine tk (i := 5) (v := undef) rfl (Or.inr ⟨by kernel_rfl, rfl⟩) hHeld0 ?_
          simp only [Act.put, zA, zB, zC, zD, zE, zF]
          refine tk (i := 6) (v := undef) rfl (Or.inr ⟨by kernel_rfl, rfl⟩) hHeld0 ?_
          simp only [Act.put, zA, zB, zC, zD, zE, zF]
          refine tk (i := 7) (v := undef) rfl (Or.inr ⟨by kernel_rfl, rfl⟩) hHeld0 ?_
          simp only [Act.put, zA, zB, zC, zD, zE, zF]
          refine tk0 (i := 8) (v := .bool false) rfl hHeld0 ?_
          simp only [Act.put, zA, zB, zC, zD, zE, zF]
          refine tk0 (i := 9) (v := .bool false) rfl hHeld0 ?_
          simp only [Act.put, zA, zB, zC, zD, zE, zF]
          refine tk (i := 10) (v := .agg (x1.map B).toArray) rfl (yields_row (by kernel_rfl) 22 _ rfl (pB) rfl 22 (x1.map B).toArray (0, 0) _ (fun W h => (h).2.1) Tryd.underlying22 rfl (HZI.out _ HX1.out)) hHeld0 ?_
          simp only [Act.put, zA, zB, zC, zD, zE, zF]
          refine tk (i := 11) (v := .agg (bl.map B).toArray) rfl (yields_row (by kernel_rfl) 22 _ rfl (g1) rfl 22 (bl.map B).toArray (0, 0) _ (fun W h => (h).2.2.1) Tryd.underlying22 rfl (HZI.out _ HBN.out)) hHeld0 ?_
          simp only [Act.put, zA, zB, zC, zD, zE, zF]
          refine tk (i := 12) (v := .bool false) rfl (Or.inl ⟨by kernel_rfl, fun w hSw => DiskSame.run_neq_op rfl rfl rfl guard_b HEQ1.out w⟩) hHeld0 ?_
          simp only [Act.put, zA, zB, zC, zD, zE, zF]
          refine tk0 (i := 13) (v := .bool false) rfl hHeld0 ?_
          simp only [Act.put, zA, zB, zC, zD, zE, zF]
          refine tk (i := 14) (v := undef) rfl (Or.inr ⟨by kernel_rfl, rfl⟩) hHeld0 ?_
          simp only [Act.put, zA, zB, zC, zD, zE, zF]
          refine tk (i := 15) (v := undef) rfl (Or.inr ⟨by kernel_rfl, rfl⟩) hHeld0 ?_
          simp only [Act.put, zA, zB, zC, zD, zE, zF]
          refine tk (i := 16) (v := undef) rfl (Or.inr ⟨by kernel_rfl, rfl⟩) hHeld0 ?_
          simp only [Act.put, zA, zB, zC, zD, zE, zF]
          refine tk (i := 17) (v := undef) rfl (Or.inr ⟨by kernel_rfl, rfl⟩) hHeld0 ?_
          simp only [Act.put, zA, zB, zC, zD, zE, zF]
          refine tk0 (i := 18) (v := .bool false) rfl hHeld0 ?_
          simp only [Act.put, zA, zB, zC, zD, zE, zF]
          refine tk0 (i := 19) (v := .bool false) rfl hHeld0 ?_
          simp only [Act.put, zA, zB, zC, zD, zE, zF]
          change wpAnyH _ _ _ _ _ 0 #[true, true, true, true, true, true, true, true, true, true, true, true, true, true, true, true, true, true, true, true] _ _
          refine wpAnyH_done (by kernel_rfl) ?_ _
          refine NoPanic.normal ?_
          have HEND := Lib.hid hHeld0
          clear hHeld0
          show K2 _ _
          exact HRESTB.out _ (fun h => absurd E0.out h) (fun h => absurd E1.out h) _ _ _ _ _ _ _ _ _ _ _ _ _ _ _ _ _ _ _ HEND.out
        · by_cases q1 : sumOf x1 = sumOf bl
          · rw [decide_eq_false e1] at HEQ1
            rw [decide_eq_true q1] at HES1
            clear e1 q1
            refine wp_region_noPanic ?_
            refine wp_region_held_drew (S := (fun W : World => Bk W pA (x0.map B).toArray 22 ∧ Bk W pB (x1.map B).toArray 22 ∧ Bk W g1 (bl.map B).toArray 22 ∧ Bk W g6 ((sumOf bl).map B).toArray 35 ∧ Fr0 w18 W)) (by kernel_rfl) (⟨Fr.keep (Fr.drew (Fr.refl (fun _ => False) _)) HXA.out (fun h => h), Fr.keep (Fr.drew (Fr.refl (fun _ => False) _)) HXB.out (fun h => h), Fr.keep (Fr.drew (Fr.refl (fun _ => False) _)) HB.out (fun h => h), Fr.keep (Fr.drew (Fr.refl (fun _ => False) _)) HSM.out (fun h => h), Fr.drew (Fr.refl _ _)⟩) (fun hHeld0 => ?_)
            refine tk (i := 0) (v := .agg (x0.map B).toArray) rfl (yields_row (by kernel_rfl) 22 _ rfl (pA) rfl 22 (x0.map B).toArray (0, 0) _ (fun W h => (h).1) Tryd.underlying22 rfl (HZI.out _ HX0.out)) hHeld0 ?_
            simp only [Act.put, zA, zB, zC, zD, zE, zF]
            refine tk (i := 1) (v := .agg (bl.map B).toArray) rfl (yields_row (by kernel_rfl) 22 _ rfl (g1) rfl 22 (bl.map B).toArray (0, 0) _ (fun W h => (h).2.2.1) Tryd.underlying22 rfl (HZI.out _ HBN.out)) hHeld0 ?_
            simp only [Act.put, zA, zB, zC, zD, zE, zF]
            refine tk (i := 2) (v := .bool false) rfl (Or.inl ⟨by kernel_rfl, fun w hSw => DiskSame.run_neq_op rfl rfl rfl guard_b HEQ0.out w⟩) hHeld0 ?_
            simp only [Act.put, zA, zB, zC, zD, zE, zF]
            refine tk0 (i := 3) (v := .bool false) rfl hHeld0 ?_
            simp only [Act.put, zA, zB, zC, zD, zE, zF]
            refine tk (i := 4) (v := undef) rfl (Or.inr ⟨by kernel_rfl, rfl⟩) hHeld0 ?_
            simp only [Act.put, zA, zB, zC, zD, zE, zF]
            refine tk (i := 5) (v := undef) rfl (Or.inr ⟨by kernel_rfl, rfl⟩) hHeld0 ?_
            simp only [Act.put, zA, zB, zC, zD, zE, zF]
            refine tk (i := 6) (v := undef) rfl (Or.inr ⟨by kernel_rfl, rfl⟩) hHeld0 ?_
            simp only [Act.put, zA, zB, zC, zD, zE, zF]
            refine tk (i := 7) (v := undef) rfl (Or.inr ⟨by kernel_rfl, rfl⟩) hHeld0 ?_
            simp only [Act.put, zA, zB, zC, zD, zE, zF]
            refine tk0 (i := 8) (v := .bool false) rfl hHeld0 ?_
            simp only [Act.put, zA, zB, zC, zD, zE, zF]
            refine tk0 (i := 9) (v := .bool false) rfl hHeld0 ?_
            simp only [Act.put, zA, zB, zC, zD, zE, zF]
            refine tk (i := 10) (v := .agg (x1.map B).toArray) rfl (yields_row (by kernel_rfl) 22 _ rfl (pB) rfl 22 (x1.map B).toArray (0, 0) _ (fun W h => (h).2.1) Tryd.underlying22 rfl (HZI.out _ HX1.out)) hHeld0 ?_
            simp only [Act.put, zA, zB, zC, zD, zE, zF]
            refine tk (i := 11) (v := .agg (bl.map B).toArray) rfl (yields_row (by kernel_rfl) 22 _ rfl (g1) rfl 22 (bl.map B).toArray (0, 0) _ (fun W h => (h).2.2.1) Tryd.underlying22 rfl (HZI.out _ HBN.out)) hHeld0 ?_
            simp only [Act.put, zA, zB, zC, zD, zE, zF]
            refine tk (i := 12) (v := .bool true) rfl (Or.inl ⟨by kernel_rfl, fun w hSw => DiskSame.run_neq_op rfl rfl rfl guard_b HEQ1.out w⟩) hHeld0 ?_
            simp only [Act.put, zA, zB, zC, zD, zE, zF]
            refine tk0 (i := 13) (v := .bool true) rfl hHeld0 ?_
            simp only [Act.put, zA, zB, zC, zD, zE, zF]
            refine tk (i := 14) (v := .slice (some ⟨pB, 0, none⟩) 128 128) rfl (Or.inl ⟨by kernel_rfl, fun w hSw => by kernel_rfl⟩) hHeld0 ?_
            simp only [Act.put, zA, zB, zC, zD, zE, zF]
            refine tk (i := 16) (v := .agg ((sumOf bl).map B).toArray) rfl (yields_row (by kernel_rfl) 35 _ rfl (g6) rfl 35 ((sumOf bl).map B).toArray (0, 0) _ (fun W h => (h).2.2.2.1) Tryd.underlying35 rfl HSI.out) hHeld0 ?_
            simp only [Act.put, zA, zB, zC, zD, zE, zF]
            change wpAnyH _ _ _ _ _ 4 #[true, true, true, true, true, true, true, true, true, true, true, true, true, true, true, false, true, false, false, false] _ _
            refine wpAnyH_ready (rs := [15]) (by kernel_rfl) (by simp) ?_
            refine AllReadyH.cons rfl (fun K hK => ?_) AllReadyH.nil
            simp only [zA, zB, zC]
            refine (if_pos (by kernel_rfl)).mpr ?_
            go_wp2_with fail
            refine (HSU.out _ _ _ HX1.out (hHeld0).2.1).mono ?_
            rintro e wx0 ⟨rfl, hfx0⟩
            dsimp only
            refine hK.out _ _ (⟨Fr.keep hfx0 (hHeld0).1 (fun h => h), Fr.keep hfx0 (hHeld0).2.1 (fun h => h), Fr.keep hfx0 (hHeld0).2.2.1 (fun h => h), Fr.keep hfx0 (hHeld0).2.2.2.1 (fun h => h), ((hHeld0).2.2.2.2).then0 hfx0⟩) (fun hHeld1 => ?_)
            clear hK K hHeld0
            refine tk (i := 17) (v := .bool true) rfl (Or.inl ⟨by kernel_rfl, fun w hSw => run_eql_op rfl rfl rfl (by kernel_rfl) HES1.out w⟩) hHeld1 ?_
            simp only [Act.put, zA, zB, zC, zD, zE, zF]
            refine tk0 (i := 18) (v := .bool true) rfl hHeld1 ?_
            simp only [Act.put, zA, zB, zC, zD, zE, zF]
            refine tk0 (i := 19) (v := .bool true) rfl hHeld1 ?_
            simp only [Act.put, zA, zB, zC, zD, zE, zF]
            change wpAnyH _ _ _ _ _ 0 #[true, true, true, true, true, true, true, true, true, true, true, true, true, true, true, true, true, true, true, true] _ _
            refine wpAnyH_done (by kernel_rfl) ?_ _
            refine NoPanic.normal ?_
            have HEND := Lib.hid hHeld1
            clear hHeld1
            show K2 _ _
            exact HRESTC.out _ _ _ _ _ _ _ _ _ _ _ _ _ _ _ _ _ _ _ _ (HEND.out).2.2.2.2
          · rw [decide_eq_false e1] at HEQ1
            rw [decide_eq_false q1] at HES1
            have Q1 := Lib.hid q1
            clear e1 q1
            refine wp_region_noPanic ?_
            refine wp_region_held_drew (S := (fun W : World => Bk W pA (x0.map B).toArray 22 ∧ Bk W pB (x1.map B).toArray 22 ∧ Bk W g1 (bl.map B).toArray 22 ∧ Bk W g6 ((sumOf bl).map B).toArray 35 ∧ Fr0 w18 W)) (by kernel_rfl) (⟨Fr.keep (Fr.drew (Fr.refl (fun _ => False) _)) HXA.out (fun h => h), Fr.keep (Fr.drew (Fr.refl (fun _ => False) _)) HXB.out (fun h => h), Fr.keep (Fr.drew (Fr.refl (fun _ => False) _)) HB.out (fun h => h), Fr.keep (Fr.drew (Fr.refl (fun _ => False) _)) HSM.out (fun h => h), Fr.drew (Fr.refl _ _)⟩) (fun hHeld0 => ?_)
            refine tk (i := 0) (v := .agg (x0.map B).toArray) rfl (yields_row (by kernel_rfl) 22 _ rfl (pA) rfl 22 (x0.map B).toArray (0, 0) _ (fun W h => (h).1) Tryd.underlying22 rfl (HZI.out _ HX0.out)) hHeld0 ?_
            simp only [Act.put, zA, zB, zC, zD, zE, zF]
            refine tk (i := 1) (v := .agg (bl.map B).toArray) rfl (yields_row (by kernel_rfl) 22 _ rfl (g1) rfl 22 (bl.map B).toArray (0, 0) _ (fun W h => (h).2.2.1) Tryd.underlying22 rfl (HZI.out _ HBN.out)) hHeld0 ?_
            simp only [Act.put, zA, zB, zC, zD, zE, zF]
            refine tk (i := 2) (v := .bool false) rfl (Or.inl ⟨by kernel_rfl, fun w hSw => DiskSame.run_neq_op rfl rfl rfl guard_b HEQ0.out w⟩) hHeld0 ?_
            simp only [Act.put, zA, zB, zC, zD, zE, zF]
            refine tk0 (i := 3) (v := .bool false) rfl hHeld0 ?_
            simp only [Act.put, zA, zB, zC, zD, zE, zF]
            refine tk (i := 4) (v := undef) rfl (Or.inr ⟨by kernel_rfl, rfl⟩) hHeld0 ?_
            simp only [Act.put, zA, zB, zC, zD, zE, zF]
            refine tk (i := 5) (v := undef) rfl (Or.inr ⟨by kernel_rfl, rfl⟩) hHeld0 ?_
            simp only [Act.put, zA, zB, zC, zD, zE, zF]
            refine tk (i := 6) (v := undef) rfl (Or.inr ⟨by kernel_rfl, rfl⟩) hHeld0 ?_
            simp only [Act.put, zA, zB, zC, zD, zE, zF]
            refine tk (i := 7) (v := undef) rfl (Or.inr ⟨by kernel_rfl, rfl⟩) hHeld0 ?_
            simp only [Act.put, zA, zB, zC, zD, zE, zF]
            refine tk0 (i := 8) (v := .bool false) rfl hHeld0 ?_
            simp only [Act.put, zA, zB, zC, zD, zE, zF]
            refine tk0 (i := 9) (v := .bool false) rfl hHeld0 ?_
            simp only [Act.put, zA, zB, zC, zD, zE, zF]
            refine tk (i := 10) (v := .agg (x1.map B).toArray) rfl (yields_row (by kernel_rfl) 22 _ rfl (pB) rfl 22 (x1.map B).toArray (0, 0) _ (fun W h => (h).2.1) Tryd.underlying22 rfl (HZI.out _ HX1.out)) hHeld0 ?_
            simp only [Act.put, zA, zB, zC, zD, zE, zF]
            refine tk (i := 11) (v := .agg (bl.map B).toArray) rfl (yields_row (by kernel_rfl) 22 _ rfl (g1) rfl 22 (bl.map B).toArray (0, 0) _ (fun W h => (h).2.2.1) Tryd.underlying22 rfl (HZI.out _ HBN.out)) hHeld0 ?_
            simp only [Act.put, zA, zB, zC, zD, zE, zF]
            refine tk (i := 12) (v := .bool true) rfl (Or.inl ⟨by kernel_rfl, fun w hSw => DiskSame.run_neq_op rfl rfl rfl guard_b HEQ1.out w⟩) hHeld0 ?_
            simp only [Act.put, zA, zB, zC, zD, zE, zF]
            refine tk0 (i := 13) (v := .bool true) rfl hHeld0 ?_
            simp only [Act.put, zA, zB, zC, zD, zE, zF]
            refine tk (i := 14) (v := .slice (some ⟨pB, 0, none⟩) 128 128) rfl (Or.inl ⟨by kernel_rfl, fun w hSw => by kernel_rfl⟩) hHeld0 ?_
            simp only [Act.put, zA, zB, zC, zD, zE, zF]
            refine tk (i := 16) (v := .agg ((sumOf bl).map B).toArray) rfl (yields_row (by kernel_rfl) 35 _ rfl (g6) rfl 35 ((sumOf bl).map B).toArray (0, 0) _ (fun W h => (h).2.2.2.1) Tryd.underlying35 rfl HSI.out) hHeld0 ?_
            simp only [Act.put, zA, zB, zC, zD, zE, zF]
            change wpAnyH _ _ _ _ _ 4 #[true, true, true, true, true, true, true, true, true, true, true, true, true, true, true, false, true, false, false, false] _ _
            refine wpAnyH_ready (rs := [15]) (by kernel_rfl) (by simp) ?_
            refine AllReadyH.cons rfl (fun K hK => ?_) AllReadyH.nil
            simp only [zA, zB, zC]
            refine (if_pos (by kernel_rfl)).mpr ?_
            go_wp2_with fail
            refine (HSU.out _ _ _ HX1.out (hHeld0).2.1).mono ?_
            rintro e wx0 ⟨rfl, hfx0⟩
            dsimp only
            refine hK.out _ _ (⟨Fr.keep hfx0 (hHeld0).1 (fun h => h), Fr.keep hfx0 (hHeld0).2.1 (fun h => h), Fr.keep hfx0 (hHeld0).2.2.1 (fun h => h), Fr.keep hfx0 (hHeld0).2.2.2.1 (fun h => h), ((hHeld0).2.2.2.2).then0 hfx0⟩) (fun hHeld1 => ?_)
            clear hK K hHeld0
            refine tk (i := 17) (v := .bool false) rfl (Or.inl ⟨by kernel_rfl, fun w hSw => run_eql_op rfl rfl rfl (by kernel_rfl) HES1.out w⟩) hHeld1 ?_
            simp only [Act.put, zA, zB, zC, zD, zE, zF]
            refine tk0 (i := 18) (v := .bool false) rfl hHeld1 ?_
            simp only [Act.put, zA, zB, zC, zD, zE, zF]
            refine tk0 (i := 19) (v := .bool false) rfl hHeld1 ?_
            simp only [Act.put, zA, zB, zC, zD, zE, zF]
            change wpAnyH _ _ _ _ _ 0 #[true, true, true, true, true, true, true, true, true, true, true, true, true, true, true, true, true, true, true, true] _ _
            refine wpAnyH_done (by kernel_rfl) ?_ _
            refine NoPanic.normal ?_
            have HEND := Lib.hid hHeld1
            clear hHeld1
            show K2 _ _
            exact HRESTB.out _ (fun h => absurd E0.out h) (fun _ => Q1.out) _ _ _ _ _ _ _ _ _ _ _ _ _ _ _ _ _ _ _ HEND.out
      · by_cases q0 : sumOf x0 = sumOf bl
        · rw [decide_eq_false e0] at HEQ0
          rw [decide_eq_true q0] at HES0
          clear e0 q0
          refine wp_region_noPanic ?_
          refine wp_region_held_drew (S := (fun W : World => Bk W pA (x0.map B).toArray 22 ∧ Bk W pB (x1.map B).toArray 22 ∧ Bk W g1 (bl.map B).toArray 22 ∧ Bk W g6 ((sumOf bl).map B).toArray 35 ∧ Fr0 w18 W)) (by kernel_rfl) (⟨Fr.keep (Fr.drew (Fr.refl (fun _ => False) _)) HXA.out (fun h => h), Fr.keep (Fr.drew (Fr.refl (fun _ => False) _)) HXB.out (fun h => h), Fr.keep (Fr.drew (Fr.refl (fun _ => False) _)) HB.out (fun h => h), Fr.keep (Fr.drew (Fr.refl (fun _ => False) _)) HSM.out (fun h => h), Fr.drew (Fr.refl _ _)⟩) (fun hHeld0 => ?_)
          refine tk (i := 0) (v := .agg (x0.map B).toArray) rfl (yields_row (by kernel_rfl) 22 _ rfl (pA) rfl 22 (x0.map B).toArray (0, 0) _ (fun W h => (h).1) Tryd.underlying22 rfl (HZI.out _ HX0.out)) hHeld0 ?_
          simp only [Act.put, zA, zB, zC, zD, zE, zF]
          refine tk (i := 1) (v := .agg (bl.map B).toArray) rfl (yields_row (by kernel_rfl) 22 _ rfl (g1) rfl 22 (bl.map B).toArray (0, 0) _ (fun W h => (h).2.2.1) Tryd.underlying22 rfl (HZI.out _ HBN.out)) hHeld0 ?_
          simp only [Act.put, zA, zB, zC, zD, zE, zF]
          refine tk (i := 2) (v := .bool true) rfl (Or.inl ⟨by kernel_rfl, fun w hSw => DiskSame.run_neq_op rfl rfl rfl guard_b HEQ0.out w⟩) hHeld0 ?_
          simp only [Act.put, zA, zB, zC, zD, zE, zF]
          refine tk0 (i := 3) (v := .bool true) rfl hHeld0 ?_
          simp only [Act.put, zA, zB, zC, zD, zE, zF]
          refine tk (i := 4) (v := .slice (some ⟨pA, 0, none⟩) 128 128) rfl (Or.inl ⟨by kernel_rfl, fun w hSw => by kernel_rfl⟩) hHeld0 ?_
          simp only [Act.put, zA, zB, zC, zD, zE, zF]
          refine tk (i := 6) (v := .agg ((sumOf bl).map B).toArray) rfl (yields_row (by kernel_rfl) 35 _ rfl (g6) rfl 35 ((sumOf bl).map B).toArray (0, 0) _ (fun W h => (h).2.2.2.1) Tryd.underlying35 rfl HSI.out) hHeld0 ?_
          simp only [Act.put, zA, zB, zC, zD, zE, zF]
          change wpAnyH _ _ _ _ _ 14 #[true, true, true, true, true, false, true, false, false, false, false, false, false, false, false, false, false, false, false, false] _ _
          refine wpAnyH_ready (rs := [5]) (by kernel_rfl) (by simp) ?_
          refine AllReadyH.cons rfl (fun K hK => ?_) AllReadyH.nil
          simp only [zA, zB, zC]
          refine (if_pos (by kernel_rfl)).mpr ?_
          go_wp2_with fail
          refine (HSU.out _ _ _ HX0.out (hHeld0).1).mono ?_
          rintro e wx0 ⟨rfl, hfx0⟩
          dsimp only
          refine hK.out _ _ (⟨Fr.keep hfx0 (hHeld0).1 (fun h => h), Fr.keep hfx0 (hHeld0).2.1 (fun h => h), Fr.keep hfx0 (hHeld0).2.2.1 (fun h => h), Fr.keep hfx0 (hHeld0).2.2.2.1 (fun h => h), ((hHeld0).2.2.2.2).then0 hfx0⟩) (fun hHeld1 => ?_)
          clear hK K hHeld0
          refine tk (i := 7) (v := .bool true) rfl (Or.inl ⟨by kernel_rfl, fun w hSw => run_eql_op rfl rfl rfl (by kernel_rfl) HES0.out w⟩) hHeld1 ?_
          simp only [Act.put, zA, zB, zC, zD, zE, zF]
          refine tk0 (i := 8) (v := .bool true) rfl hHeld1 ?_
          simp only [Act.put, zA, zB, zC, zD, zE, zF]
          refine tk0 (i := 9) (v := .bool true) rfl hHeld1 ?_
          simp only [Act.put, zA, zB, zC, zD, zE, zF]
          refine tk (i := 10) (v := undef) rfl (Or.inr ⟨by kernel_rfl, rfl⟩) hHeld1 ?_
          simp only [Act.put, zA, zB, zC, zD, zE, zF]
          refine tk (i := 11) (v := undef) rfl (Or.inr ⟨by kernel_rfl, rfl⟩) hHeld1 ?_
          simp only [Act.put, zA, zB, zC, zD, zE, zF]
          refine tk (i := 12) (v := undef) rfl (Or.inr ⟨by kernel_rfl, rfl⟩) hHeld1 ?_
          simp only [Act.put, zA, zB, zC, zD, zE, zF]
          refine tk (i := 13) (v := undef) rfl (Or.inr ⟨by kernel_rfl, rfl⟩) hHeld1 ?_
          simp only [Act.put, zA, zB, zC, zD, zE, zF]
          refine tk (i := 14) (v := undef) rfl (Or.inr ⟨by kernel_rfl, rfl⟩) hHeld1 ?_
          simp only [Act.put, zA, zB, zC, zD, zE, zF]
          refine tk (i := 15) (v := undef) rfl (Or.inr ⟨by kernel_rfl, rfl⟩) hHeld1 ?_
          simp only [Act.put, zA, zB, zC, zD, zE, zF]
          refine tk (i := 16) (v := undef) rfl (Or.inr ⟨by kernel_rfl, rfl⟩) hHeld1 ?_
          simp only [Act.put, zA, zB, zC, zD, zE, zF]
          refine tk (i := 17) (v := undef) rfl (Or.inr ⟨by kernel_rfl, rfl⟩) hHeld1 ?_
          simp only [Act.put, zA, zB, zC, zD, zE, zF]
          refine tk (i := 18) (v := undef) rfl (Or.inr ⟨by kernel_rfl, rfl⟩) hHeld1 ?_
          simp only [Act.put, zA, zB, zC, zD, zE, zF]
          refine tk0 (i := 19) (v := .bool true) rfl hHeld1 ?_
          simp only [Act.put, zA, zB, zC, zD, zE, zF]
          change wpAnyH _ _ _ _ _ 0 #[true, true, true, true, true, true, true, true, true, true, true, true, true, true, true, true, true, true, true, true] _ _
          refine wpAnyH_done (by kernel_rfl) ?_ _
          refine NoPanic.normal ?_
          have HEND := Lib.hid hHeld1
          clear hHeld1
          show K2 _ _
          exact HRESTC.out _ _ _ _ _ _ _ _ _ _ _ _ _ _ _ _ _ _ _ _ (HEND.out).2.2.2.2
        · rw [decide_eq_false e0] at HEQ0
          rw [decide_eq_false q0] at HES0
          have Q0 := Lib.hid q0
          clear e0 q0
          by_cases e1 : x1 = bl
          · rw [decide_eq_true e1] at HEQ1
            have E1 := Lib.hid e1
            clear e1
            refine wp_region_noPanic ?_
            refine wp_region_held_drew (S := (fun W : World => Bk W pA (x0.map B).toArray 22 ∧ Bk W pB (x1.map B).toArray 22 ∧ Bk W g1 (bl.map B).toArray 22 ∧ Bk W g6 ((sumOf bl).map B).toArray 35 ∧ Fr0 w18 W)) (by kernel_rfl) (⟨Fr.keep (Fr.drew (Fr.refl (fun _ => False) _)) HXA.out (fun h => h), Fr.keep (Fr.drew (Fr.refl (fun _ => False) _)) HXB.out (fun h => h), Fr.keep (Fr.drew (Fr.refl (fun _ => False) _)) HB.out (fun h => h), Fr.keep (Fr.drew (Fr.refl (fun _ => False) _)) HSM.out (fun h => h), Fr.drew (Fr.refl _ _)⟩) (fun hHeld0 => ?_)
            refine tk (i := 0) (v := .agg (x0.map B).toArray) rfl (yields_row (by kernel_rfl) 22 _ rfl (pA) rfl 22 (x0.map B).toArray (0, 0) _ (fun W h => (h).1) Tryd.underlying22 rfl (HZI.out _ HX0.out)) hHeld0 ?_
            simp only [Act.put, zA, zB, zC, zD, zE, zF]
            refine tk (i := 1) (v := .agg (bl.map B).toArray) rfl (yields_row (by kernel_rfl) 22 _ rfl (g1) rfl 22 (bl.map B).toArray (0, 0) _ (fun W h => (h).2.2.1) Tryd.underlying22 rfl (HZI.out _ HBN.out)) hHeld0 ?_
            simp only [Act.put, zA, zB, zC, zD, zE, zF]
            refine tk (i := 2) (v := .bool true) rfl (Or.inl ⟨by kernel_rfl, fun w hSw => DiskSame.run_neq_op rfl rfl rfl guard_b HEQ0.out w⟩) hHeld0 ?_
            simp only [Act.put, zA, zB, zC, zD, zE, zF]
            refine tk0 (i := 3) (v := .bool true) rfl hHeld0 ?_
            simp only [Act.put, zA, zB, zC, zD, zE, zF]
            refine tk (i := 4) (v := .slice (some ⟨pA, 0, none⟩) 128 128) rfl (Or.inl ⟨by kernel_rfl, fun w hSw => by kernel_rfl⟩) hHeld0 ?_
            simp only [Act.put, zA, zB, zC, zD, zE, zF]
            refine tk (i := 6) (v := .agg ((sumOf bl).map B).toArray) rfl (yields_row (by kernel_rfl) 35 _ rfl (g6) rfl 35 ((sumOf bl).map B).toArray (0, 0) _ (fun W h => (h).2.2.2.1) Tryd.underlying35 rfl HSI.out) hHeld0 ?_
            simp only [Act.put, zA, zB, zC, zD, zE, zF]
            change wpAnyH _ _ _ _ _ 14 #[true, true, true, true, true, false, true, false, false, false, false, false, false, false, false, false, false, false, false, false] _ _
            refine wpAnyH_ready (rs := [5]) (by kernel_rfl) (by simp) ?_
            refine AllReadyH.cons rfl (fun K hK => ?_) AllReadyH.nil
            simp only [zA, zB, zC]
            refine (if_pos (by kernel_rfl)).mpr ?_
            go_wp2_with fail
            refine (HSU.out _ _ _ HX0.out (hHeld0).1).mono ?_
            rintro e wx0 ⟨rfl, hfx0⟩
            dsimp only
            refine hK.out _ _ (⟨Fr.keep hfx0 (hHeld0).1 (fun h => h), Fr.keep hfx0 (hHeld0).2.1 (fun h => h), Fr.keep hfx0 (hHeld0).2.2.1 (fun h => h), Fr.keep hfx0 (hHeld0).2.2.2.1 (fun h => h), ((hHeld0).2.2.2.2).then0 hfx0⟩) (fun hHeld1 => ?_)
            clear hK K hHeld0
            refine tk (i := 7) (v := .bool false) rfl (Or.inl ⟨by kernel_rfl, fun w hSw => run_eql_op rfl rfl rfl (by kernel_rfl) HES0.out w⟩) hHeld1 ?_
            simp only [Act.put, zA, zB, zC, zD, zE, zF]
            refine tk0 (i := 8) (v := .bool false) rfl hHeld1 ?_
            simp only [Act.put, zA, zB, zC, zD, zE, zF]
            refine tk0 (i := 9) (v := .bool false) rfl hHeld1 ?_
            simp only [Act.put, zA, zB, zC, zD, zE, zF]
            refine tk (i := 10) (v := .agg (x1.map B).toArray) rfl (yields_row (by kernel_rfl) 22 _ rfl (pB) rfl 22 (x1.map B).toArray (0, 0) _ (fun W h => (h).2.1) Tryd.underlying22 rfl (HZI.out _ HX1.out)) hHeld1 ?_
            simp only [Act.put, zA, zB, zC, zD, zE, zF]
            refine tk (i := 11) (v := .agg (bl.map B).toArray) rfl (yields_row (by kernel_rfl) 22 _ rfl (g1) rfl 22 (bl.map B).toArray (0, 0) _ (fun W h => (h).2.2.1) Tryd.underlying22 rfl (HZI.out _ HBN.out)) hHeld1 ?_
            simp only [Act.put, zA, zB, zC, zD, zE, zF]
            refine tk (i := 12) (v := .bool false) rfl (Or.inl ⟨by kernel_rfl, fun w hSw => DiskSame.run_neq_op rfl rfl rfl guard_b HEQ1.out w⟩) hHeld1 ?_
            simp only [Act.put, zA, zB, zC, zD, zE, zF]
            refine tk0 (i := 13) (v := .bool false) rfl hHeld1 ?_
            simp only [Act.put, zA, zB, zC, zD, zE, zF]
            refine tk (i := 14) (v := undef) rfl (Or.inr ⟨by kernel_rfl, rfl⟩) hHeld1 ?_
            simp only [Act.put, zA, zB, zC, zD, zE, zF]
            refine tk (i := 15) (v := undef) rfl (Or.inr ⟨by kernel_rfl, rfl⟩) hHeld1 ?_
            simp only [Act.put, zA, zB, zC, zD, zE, zF]
            refine tk (i := 16) (v := undef) rfl (Or.inr ⟨by kernel_rfl, rfl⟩) hHeld1 ?_
            simp only [Act.put, zA, zB, zC, zD, zE, zF]
            refine tk (i := 17) (v := undef) rfl (Or.inr ⟨by kernel_rfl, rfl⟩) hHeld1 ?_
            simp only [Act.put, zA, zB, zC, zD, zE, zF]
            refine tk0 (i := 18) (v := .bool false) rfl hHeld1 ?_
            simp only [Act.put, zA, zB, zC, zD, zE, zF]
            refine tk0 (i := 19) (v := .bool false) rfl hHeld1 ?_
            simp only [Act.put, zA, zB, zC, zD, zE, zF]
            change wpAnyH _ _ _ _ _ 0 #[true, true, true, true, true, true, true, true, true, true, true, true, true, true, true, true, true, true, true, true] _ _
            refine wpAnyH_done (by kernel_rfl) ?_ _
            refine NoPanic.normal ?_
            have HEND := Lib.hid hHeld1
            clear hHeld1
            show K2 _ _
            exact HRESTB.out _ (fun _ => Q0.out) (fun h => absurd E1.out h) _ _ _ _ _ _ _ _ _ _ _ _ _ _ _ _ _ _ _ HEND.out
          · by_cases q1 : sumOf x1 = sumOf bl
            · rw [decide_eq_false e1] at HEQ1
              rw [decide_eq_true q1] at HES1
              clear e1 q1
              refine wp_region_noPanic ?_
              refine wp_region_held_drew (S := (fun W : World => Bk W pA (x0.map B).toArray 22 ∧ Bk W pB (x1.map B).toArray 22 ∧ Bk W g1 (bl.map B).toArray 22 ∧ Bk W g6 ((sumOf bl).map B).toArray 35 ∧ Fr0 w18 W)) (by kernel_rfl) (⟨Fr.keep (Fr.drew (Fr.refl (fun _ => False) _)) HXA.out (fun h => h), Fr.keep (Fr.drew (Fr.refl (fun _ => False) _)) HXB.out (fun h => h), Fr.keep (Fr.drew (Fr.refl (fun _ => False) _)) HB.out (fun h => h), Fr.keep (Fr.drew (Fr.refl (fun _ => False) _)) HSM.out (fun h => h), Fr.drew (Fr.refl _ _)⟩) (fun hHeld0 => ?_)
              refine tk (i := 0) (v := .agg (x0.map B).toArray) rfl (yields_row (by kernel_rfl) 22 _ rfl (pA) rfl 22 (x0.map B).toArray (0, 0) _ (fun W h => (h).1) Tryd.underlying22 rfl (HZI.out _ HX0.out)) hHeld0 ?_
              simp only [Act.put, zA, zB, zC, zD, zE, zF]
              refine tk (i := 1) (v := .agg (bl.map B).toArray) rfl (yields_row (by kernel_rfl) 22 _ rfl (g1) rfl 22 (bl.map B).toArray (0, 0) _ (fun W h => (h).2.2.1) Tryd.underlying22 rfl (HZI.out _ HBN.out)) hHeld0 ?_
              simp only [Act.put, zA, zB, zC, zD, zE, zF]
              refine tk (i := 2) (v := .bool true) rfl (Or.inl ⟨by kernel_rfl, fun w hSw => DiskSame.run_neq_op rfl rfl rfl guard_b HEQ0.out w⟩) hHeld0 ?_
              simp only [Act.put, zA, zB, zC, zD, zE, zF]
              refine tk0 (i := 3) (v := .bool true) rfl hHeld0 ?_
              simp only [Act.put, zA, zB, zC, zD, zE, zF]
              refine tk (i := 4) (v := .slice (some ⟨pA, 0, none⟩) 128 128) rfl (Or.inl ⟨by kernel_rfl, fun w hSw => by kernel_rfl⟩) hHeld0 ?_
              simp only [Act.put, zA, zB, zC, zD, zE, zF]
              refine tk (i := 6) (v := .agg ((sumOf bl).map B).toArray) rfl (yields_row (by kernel_rfl) 35 _ rfl (g6) rfl 35 ((sumOf bl).map B).toArray (0, 0) _ (fun W h => (h).2.2.2.1) Tryd.underlying35 rfl HSI.out) hHeld0 ?_
              simp only [Act.put, zA, zB, zC, zD, zE, zF]
              change wpAnyH _ _ _ _ _ 14 #[true, true, true, true, true, false, true, false, false, false, false, false, false, false, false, false, false, false, false, false] _ _
              refine wpAnyH_ready (rs := [5]) (by kernel_rfl) (by simp) ?_
              refine AllReadyH.cons rfl (fun K hK => ?_) AllReadyH.nil
              simp only [zA, zB, zC]
              refine (if_pos (by kernel_rfl)).mpr ?_
              go_wp2_with fail
              refine (HSU.out _ _ _ HX0.out (hHeld0).1).mono ?_
              rintro e wx0 ⟨rfl, hfx0⟩
              dsimp only
              refine hK.out _ _ (⟨Fr.keep hfx0 (hHeld0).1 (fun h => h), Fr.keep hfx0 (hHeld0).2.1 (fun h => h), Fr.keep hfx0 (hHeld0).2.2.1 (fun h => h), Fr.keep hfx0 (hHeld0).2.2.2.1 (fun h => h), ((hHeld0).2.2.2.2).then0 hfx0⟩) (fun hHeld1 => ?_)
              clear hK K hHeld0
              refine tk (i := 7) (v := .bool false) rfl (Or.inl ⟨by kernel_rfl, fun w hSw => run_eql_op rfl rfl rfl (by kernel_rfl) HES0.out w⟩) hHeld1 ?_
              simp only [Act.put, zA, zB, zC, zD, zE, zF]
              refine tk0 (i := 8) (v := .bool false) rfl hHeld1 ?_
              simp only [Act.put, zA, zB, zC, zD, zE, zF]
              refine tk0 (i := 9) (v := .bool false) rfl hHeld1 ?_
              simp only [Act.put, zA, zB, zC, zD, zE, zF]
              refine tk (i := 10) (v := .agg (x1.map B).toArray) rfl (yields_row (by kernel_rfl) 22 _ rfl (pB) rfl 22 (x1.map B).toArray (0, 0) _ (fun W h => (h).2.1) Tryd.underlying22 rfl (HZI.out _ HX1.out)) hHeld1 ?_
              simp only [Act.put, zA, zB, zC, zD, zE, zF]
              refine tk (i := 11) (v := .agg (bl.map B).toArray) rfl (yields_row (by kernel_rfl) 22 _ rfl (g1) rfl 22 (bl.map B).toArray (0, 0) _ (fun W h => (h).2.2.1) Tryd.underlying22 rfl (HZI.out _ HBN.out)) hHeld1 ?_
              simp only [Act.put, zA, zB, zC, zD, zE, zF]
              refine tk (i := 12) (v := .bool true) rfl (Or.inl ⟨by kernel_rfl, fun w hSw => DiskSame.run_neq_op rfl rfl rfl guard_b HEQ1.out w⟩) hHeld1 ?_
              simp only [Act.put, zA, zB, zC, zD, zE, zF]
              refine tk0 (i := 13) (v := .bool true) rfl hHeld1 ?_
              simp only [Act.put, zA, zB, zC, zD, zE, zF]
              refine tk (i := 14) (v := .slice (some ⟨pB, 0, none⟩) 128 128) rfl (Or.inl ⟨by kernel_rfl, fun w hSw => by kernel_rfl⟩) hHeld1 ?_
              simp only [Act.put, zA, zB, zC, zD, zE, zF]
              refine tk (i := 16) (v := .agg ((sumOf bl).map B).toArray) rfl (yields_row (by kernel_rfl) 35 _ rfl (g6) rfl 35 ((sumOf bl).map B).toArray (0, 0) _ (fun W h => (h).2.2.2.1) Tryd.underlying35 rfl HSI.out) hHeld1 ?_
              simp only [Act.put, zA, zB, zC, zD, zE, zF]
              change wpAnyH _ _ _ _ _ 4 #[true, true, true, true, true, true, true, true, true, true, true, true, true, true, true, false, true, false, false, false] _ _
              refine wpAnyH_ready (rs := [15]) (by kernel_rfl) (by simp) ?_
              refine AllReadyH.cons rfl (fun K hK => ?_) AllReadyH.nil
              simp only [zA, zB, zC]
              refine (if_pos (by kernel_rfl)).mpr ?_
              go_wp2_with fail
              refine (HSU.out _ _ _ HX1.out (hHeld1).2.1).mono ?_
              rintro e wx1 ⟨rfl, hfx1⟩
              dsimp only
              refine hK.out _ _ (⟨Fr.keep hfx1 (hHeld1).1 (fun h => h), Fr.keep hfx1 (hHeld1).2.1 (fun h => h), Fr.keep hfx1 (hHeld1).2.2.1 (fun h => h), Fr.keep hfx1 (hHeld1).2.2.2.1 (fun h => h), ((hHeld1).2.2.2.2).then0 hfx1⟩) (fun hHeld2 => ?_)
              clear hK K hHeld1
              refine tk (i := 17) (v := .bool true) rfl (Or.inl ⟨by kernel_rfl, fun w hSw => run_eql_op rfl rfl rfl (by kernel_rfl) HES1.out w⟩) hHeld2 ?_
              simp only [Act.put, zA, zB, zC, zD, zE, zF]
              refine tk0 (i := 18) (v := .bool true) rfl hHeld2 ?_
              simp only [Act.put, zA, zB, zC, zD, zE, zF]
              refine tk0 (i := 19) (v := .bool true) rfl hHeld2 ?_
              simp only [Act.put, zA, zB, zC, zD, zE, zF]
              change wpAnyH _ _ _ _ _ 0 #[true, true, true, true, true, true, true, true, true, true, true, true, true, true, true, true, true, true, true, true] _ _
              refine wpAnyH_done (by kernel_rfl) ?_ _
              refine NoPanic.normal ?_
              have HEND := Lib.hid hHeld2
              clear hHeld2
              show K2 _ _
              exact HRESTC.out _ _ _ _ _ _ _ _ _ _ _ _ _ _ _ _ _ _ _ _ (HEND.out).2.2.2.2
            · rw [decide_eq_false e1] at HEQ1
              rw [decide_eq_false q1] at HES1
              have Q1 := Lib.hid q1
              clear e1 q1
              refine wp_region_noPanic ?_
              refine wp_region_held_drew (S := (fun W : World => Bk W pA (x0.map B).toArray 22 ∧ Bk W pB (x1.map B).toArray 22 ∧ Bk W g1 (bl.map B).toArray 22 ∧ Bk W g6 ((sumOf bl).map B).toArray 35 ∧ Fr0 w18 W)) (by kernel_rfl) (⟨Fr.keep (Fr.drew (Fr.refl (fun _ => False) _)) HXA.out (fun h => h), Fr.keep (Fr.drew (Fr.refl (fun _ => False) _)) HXB.out (fun h => h), Fr.keep (Fr.drew (Fr.refl (fun _ => False) _)) HB.out (fun h => h), Fr.keep (Fr.drew (Fr.refl (fun _ => False) _)) HSM.out (fun h => h), Fr.drew (Fr.refl _ _)⟩) (fun hHeld0 => ?_)
              refine tk (i := 0) (v := .agg (x0.map B).toArray) rfl (yields_row (by kernel_rfl) 22 _ rfl (pA) rfl 22 (x0.map B).toArray (0, 0) _ (fun W h => (h).1) Tryd.underlying22 rfl (HZI.out _ HX0.out)) hHeld0 ?_
              simp only [Act.put, zA, zB, zC, zD, zE, zF]
              refine tk (i := 1) (v := .agg (bl.map B).toArray) rfl (yields_row (by kernel_rfl) 22 _ rfl (g1) rfl 22 (bl.map B).toArray (0, 0) _ (fun W h => (h).2.2.1) Tryd.underlying22 rfl (HZI.out _ HBN.out)) hHeld0 ?_
              simp only [Act.put, zA, zB, zC, zD, zE, zF]
              refine tk (i := 2) (v := .bool true) rfl (Or.inl ⟨by kernel_rfl, fun w hSw => DiskSame.run_neq_op rfl rfl rfl guard_b HEQ0.out w⟩) hHeld0 ?_
              simp only [Act.put, zA, zB, zC, zD, zE, zF]
              refine tk0 (i := 3) (v := .bool true) rfl hHeld0 ?_
              simp only [Act.put, zA, zB, zC, zD, zE, zF]
              refine tk (i := 4) (v := .slice (some ⟨pA, 0, none⟩) 128 128) rfl (Or.inl ⟨by kernel_rfl, fun w hSw => by kernel_rfl⟩) hHeld0 ?_
              simp only [Act.put, zA, zB, zC, zD, zE, zF]
              refine tk (i := 6) (v := .agg ((sumOf bl).map B).toArray) rfl (yields_row (by kernel_rfl) 35 _ rfl (g6) rfl 35 ((sumOf bl).map B).toArray (0, 0) _ (fun W h => (h).2.2.2.1) Tryd.underlying35 rfl HSI.out) hHeld0 ?_
              simp only [Act.put, zA, zB, zC, zD, zE, zF]
              change wpAnyH _ _ _ _ _ 14 #[true, true, true, true, true, false, true, false, false, false, false, false, false, false, false, false, false, false, false, false] _ _
              refine wpAnyH_ready (rs := [5]) (by kernel_rfl) (by simp) ?_
              refine AllReadyH.cons rfl (fun K hK => ?_) AllReadyH.nil
              simp only [zA, zB, zC]
              refine (if_pos (by kernel_rfl)).mpr ?_
              go_wp2_with fail
              refine (HSU.out _ _ _ HX0.out (hHeld0).1).mono ?_
              rintro e wx0 ⟨rfl, hfx0⟩
              dsimp only
              refine hK.out _ _ (⟨Fr.keep hfx0 (hHeld0).1 (fun h => h), Fr.keep hfx0 (hHeld0).2.1 (fun h => h), Fr.keep hfx0 (hHeld0).2.2.1 (fun h => h), Fr.keep hfx0 (hHeld0).2.2.2.1 (fun h => h), ((hHeld0).2.2.2.2).then0 hfx0⟩) (fun hHeld1 => ?_)
              clear hK K hHeld0
              refine tk (i := 7) (v := .bool false) rfl (Or.inl ⟨by kernel_rfl, fun w hSw => run_eql_op rfl rfl rfl (by kernel_rfl) HES0.out w⟩) hHeld1 ?_
              simp only [Act.put, zA, zB, zC, zD, zE, zF]
              refine tk0 (i := 8) (v := .bool false) rfl hHeld1 ?_
              simp only [Act.put, zA, zB, zC, zD, zE, zF]
              refine tk0 (i := 9) (v := .bool false) rfl hHeld1 ?_
              simp only [Act.put, zA, zB, zC, zD, zE, zF]
              refine tk (i := 10) (v := .agg (x1.map B).toArray) rfl (yields_row (by kernel_rfl) 22 _ rfl (pB) rfl 22 (x1.map B).toArray (0, 0) _ (fun W h => (h).2.1) Tryd.underlying22 rfl (HZI.out _ HX1.out)) hHeld1 ?_
              simp only [Act.put, zA, zB, zC, zD, zE, zF]
              refine tk (i := 11) (v := .agg (bl.map B).toArray) rfl (yields_row (by kernel_rfl) 22 _ rfl (g1) rfl 22 (bl.map B).toArray (0, 0) _ (fun W h => (h).2.2.1) Tryd.underlying22 rfl (HZI.out _ HBN.out)) hHeld1 ?_
              simp only [Act.put, zA, zB, zC, zD, zE, zF]
              refine tk (i := 12) (v := .bool true) rfl (Or.inl ⟨by kernel_rfl, fun w hSw => DiskSame.run_neq_op rfl rfl rfl guard_b HEQ1.out w⟩) hHeld1 ?_
              simp only [Act.put, zA, zB, zC, zD, zE, zF]
              refine tk0 (i := 13) (v := .bool true) rfl hHeld1 ?_
              simp only [Act.put, zA, zB, zC, zD, zE, zF]
              refine tk (i := 14) (v := .slice (some ⟨pB, 0, none⟩) 128 128) rfl (Or.inl ⟨by kernel_rfl, fun w hSw => by kernel_rfl⟩) hHeld1 ?_
              simp only [Act.put, zA, zB, zC, zD, zE, zF]
              refine tk (i := 16) (v := .agg ((sumOf bl).map B).toArray) rfl (yields_row (by kernel_rfl) 35 _ rfl (g6) rfl 35 ((sumOf bl).map B).toArray (0, 0) _ (fun W h => (h).2.2.2.1) Tryd.underlying35 rfl HSI.out) hHeld1 ?_
              simp only [Act.put, zA, zB, zC, zD, zE, zF]
              change wpAnyH _ _ _ _ _ 4 #[true, true, true, true, true, true, true, true, true, true, true, true, true, true, true, false, true, false, false, false] _ _
              refine wpAnyH_ready (rs := [15]) (by kernel_rfl) (by simp) ?_
              refine AllReadyH.cons rfl (fun K hK => ?_) AllReadyH.nil
              simp only [zA, zB, zC]
              refine (if_pos (by kernel_rfl)).mpr ?_
              go_wp2_with fail
              refine (HSU.out _ _ _ HX1.out (hHeld1).2.1).mono ?_
              rintro e wx1 ⟨rfl, hfx1⟩
              dsimp only
              refine hK.out _ _ (⟨Fr.keep hfx1 (hHeld1).1 (fun h => h), Fr.keep hfx1 (hHeld1).2.1 (fun h => h), Fr.keep hfx1 (hHeld1).2.2.1 (fun h => h), Fr.keep hfx1 (hHeld1).2.2.2.1 (fun h => h), ((hHeld1).2.2.2.2).then0 hfx1⟩) (fun hHeld2 => ?_)
              clear hK K hHeld1
              refine tk (i := 17) (v := .bool false) rfl (Or.inl ⟨by kernel_rfl, fun w hSw => run_eql_op rfl rfl rfl (by kernel_rfl) HES1.out w⟩) hHeld2 ?_
              simp only [Act.put, zA, zB, zC, zD, zE, zF]
              refine tk0 (i := 18) (v := .bool false) rfl hHeld2 ?_
              simp only [Act.put, zA, zB, zC, zD, zE, zF]
              refine tk0 (i := 19) (v := .bool false) rfl hHeld2 ?_
              simp only [Act.put, zA, zB, zC, zD, zE, zF]
              change wpAnyH _ _ _ _ _ 0 #[true, true, true, true, true, true, true, true, true, true, true, true, true, true, true, true, true, true, true, true] _ _
              refine wpAnyH_done (by kernel_rfl) ?_ _
              refine NoPanic.normal ?_
              have HEND := Lib.hid hHeld2
              clear hHeld2
              show K2 _ _
              exact HRESTB.out _ (fun _ => Q0.out) (fun _ => Q1.out) _ _ _ _ _ _ _ _ _ _ _ _ _ _ _ _ _ _ _ HEND.out
    )
  clear hKA
  refine wp_region_noPanic ?_
  refine wp_region_held_drew (S := (fun W : World => Fr0 w14 W)) (by kernel_rfl) (Fr.drew (Fr.refl _ _)) (fun hHeld0 => ?_)
  generalize w14.drew = wd at *
  refine tk0 (i := 0) (v := .pointer (some ⟨g3, 0, none⟩)) rfl hHeld0 ?_
  simp only [Act.put, zA, zB, zC, zD, zE, zF]
  refine tk (i := 1) (v := .slice (some ⟨sb, so, none⟩) 60 sc2) rfl (Or.inl ⟨by kernel_rfl, fun w hSw => by have hcl := (fun W h => (Fr.cell h g3 0 (PS.wlt HP.out).1 (fun h => h)).trans HC0.out) w hSw; go_simp⟩) hHeld0 ?_
  simp only [Act.put, zA, zB, zC, zD, zE, zF]
  refine tk (i := 2) (v := .pointer (some ⟨sb, so + 390, none⟩)) rfl (Or.inl ⟨by kernel_rfl, fun w hSw => by go_simp⟩) hHeld0 ?_
  simp only [Act.put, zA, zB, zC, zD, zE, zF]
  refine tk0 (i := 3) (v := .pointer (some ⟨sb, so + 390, none⟩)) rfl hHeld0 ?_
  simp only [Act.put, zA, zB, zC, zD, zE, zF]
  refine tk (i := 4) (v := .agg (x0.map B).toArray) rfl (yieldsIf_load_mid (by kernel_rfl) 22 _ rfl sb (so + 390) rfl (x0.map B) _ (fun W h => rng_keep h HR0.out) Tryd.underlying22 rfl (HLI.out _ HX0.out)) hHeld0 ?_
  simp only [Act.put, zA, zB, zC, zD, zE, zF]
  refine tk0 (i := 5) (v := .pointer (some ⟨g3, 0, none⟩)) rfl hHeld0 ?_
  simp only [Act.put, zA, zB, zC, zD, zE, zF]
  refine tk (i := 6) (v := .slice (some ⟨sb, so, none⟩) 60 sc2) rfl (Or.inl ⟨by kernel_rfl, fun w hSw => by have hcl := (fun W h => (Fr.cell h g3 0 (PS.wlt HP.out).1 (fun h => h)).trans HC0.out) w hSw; go_simp⟩) hHeld0 ?_
  simp only [Act.put, zA, zB, zC, zD, zE, zF]
  refine tk (i := 7) (v := .pointer (some ⟨sb, so + 3250, none⟩)) rfl (Or.inl ⟨by kernel_rfl, fun w hSw => by go_simp⟩) hHeld0 ?_
  simp only [Act.put, zA, zB, zC, zD, zE, zF]
  refine tk0 (i := 8) (v := .pointer (some ⟨sb, so + 3250, none⟩)) rfl hHeld0 ?_
  simp only [Act.put, zA, zB, zC, zD, zE, zF]
  refine tk (i := 9) (v := .agg (x1.map B).toArray) rfl (yieldsIf_load_mid (by kernel_rfl) 22 _ rfl sb (so + 3250) rfl (x1.map B) _ (fun W h => rng_keep h HR1.out) Tryd.underlying22 rfl (HLI.out _ HX1.out)) hHeld0 ?_
  simp only [Act.put, zA, zB, zC, zD, zE, zF]
  change wpAnyH _ _ _ _ _ 4 #[true, true, true, true, true, true, true, true, true, true, false, false, false, false] _ _
  refine wpAnyH_ready (rs := [10, 11]) (by kernel_rfl) (by simp) ?_
  refine AllReadyH.cons rfl (fun K hK => ?_) (AllReadyH.cons rfl (fun K hK => ?_) (AllReadyH.nil))
  · simp only [zA, zB, zC]
    refine (if_pos (by kernel_rfl)).mpr ?_
    go_wp2_with fail
    have hfx0 : Fr0 wd (wd.alloc (.cells ZB 22)) := Fr.alloc (Fr.refl _ _) _
    have HLO0 : Hid (w14.heap.size ≤ wd.heap.size) := Lib.hid (Fr.size hHeld0)
    have HZ0 : Hid (Bk (wd.alloc (.cells ZB 22)) wd.heap.size ZB 22) := Lib.hid (Bk.new wd _)
    refine hK.out _ _ (hHeld0.then0 hfx0) (fun hHeld1 => ?_)
    clear hK K hHeld0
    clear hfx0
    generalize wd.heap.size = pA at *
    generalize (wd.alloc (.cells ZB 22)) = wx0 at *
    change wpAnyH _ _ _ _ _ 3 #[true, true, true, true, true, true, true, true, true, true, true, false, false, false] _ _
    refine wpAnyH_ready (rs := [11]) (by kernel_rfl) (by simp) ?_
    refine AllReadyH.cons rfl (fun K hK => ?_) AllReadyH.nil
    simp only [zA, zB, zC]
    refine (if_pos (by kernel_rfl)).mpr ?_
    go_wp2_with fail
    have hfx1 : Fr0 wx0 (wx0.alloc (.cells ZB 22)) := Fr.alloc (Fr.refl _ _) _
    have HLO1 : Hid (w14.heap.size ≤ wx0.heap.size) := Lib.hid (Fr.size hHeld1)
    have HPQ : Hid (pA ≠ wx0.heap.size) := Lib.hid (by have h1 := Bk.lt HZ0.out; omega)
    replace HZ0 := Lib.hid (Fr.keep hfx1 HZ0.out (fun h => h))
    have HZ1 : Hid (Bk (wx0.alloc (.cells ZB 22)) wx0.heap.size ZB 22) := Lib.hid (Bk.new wx0 _)
    refine hK.out _ _ (hHeld1.then0 hfx1) (fun hHeld2 => ?_)
    clear hK K hHeld1
    clear hfx1
    generalize wx0.heap.size = pB at *
    generalize (wx0.alloc (.cells ZB 22)) = wx1 at *
    change wpAnyH _ _ _ _ _ 2 #[true, true, true, true, true, true, true, true, true, true, true, true, false, false] _ _
    refine wpAnyH_ready (rs := [12]) (by kernel_rfl) (by simp) ?_
    refine AllReadyH.cons rfl (fun K hK => ?_) AllReadyH.nil
    simp only [zA, zB, zC]
    refine (if_pos (by kernel_rfl)).mpr ?_
    refine wp_store_row 22 _ _ rfl pA (x0.map B).toArray rfl rfl 22 ZB HZ0.out (HZI.out _ HX0.out) (HZS.out _ HX0.out) (HZO.out _) ?_
    replace HZ1 := Lib.hid (show (wx1.setRow pA (x0.map B).toArray).heap[pB]? = _ from ArrKit.Bk.rowOther HZ1.out _ (HPQ.out.symm))
    replace HZ0 : Hid (Bk (wx1.setRow pA (x0.map B).toArray) pA (x0.map B).toArray 22) := Lib.hid (ArrKit.Bk.row HZ0.out _)
    refine hK.out _ _ (ArrKit.Fr.row hHeld2 _ _ (.inl HLO0.out)) (fun hHeld3 => ?_)
    clear hK K hHeld2
    generalize (wx1.setRow pA (x0.map B).toArray) = wx2 at *
    change wpAnyH _ _ _ _ _ 1 #[true, true, true, true, true, true, true, true, true, true, true, true, true, false] _ _
    refine wpAnyH_ready (rs := [13]) (by kernel_rfl) (by simp) ?_
    refine AllReadyH.cons rfl (fun K hK => ?_) AllReadyH.nil
    simp only [zA, zB, zC]
    refine (if_pos (by kernel_rfl)).mpr ?_
    refine wp_store_row 22 _ _ rfl pB (x1.map B).toArray rfl rfl 22 ZB HZ1.out (HZI.out _ HX1.out) (HZS.out _ HX1.out) (HZO.out _) ?_
    replace HZ0 := Lib.hid (show (wx2.setRow pB (x1.map B).toArray).heap[pA]? = _ from ArrKit.Bk.rowOther HZ0.out _ (HPQ.out))
    replace HZ1 : Hid (Bk (wx2.setRow pB (x1.map B).toArray) pB (x1.map B).toArray 22) := Lib.hid (ArrKit.Bk.row HZ1.out _)
    refine hK.out _ _ (ArrKit.Fr.row hHeld3 _ _ (.inl HLO1.out)) (fun hHeld4 => ?_)
    clear hK K hHeld3
    generalize (wx2.setRow pB (x1.map B).toArray) = wx3 at *
    change wpAnyH _ _ _ _ _ 0 #[true, true, true, true, true, true, true, true, true, true, true, true, true, true] _ _
    refine wpAnyH_done (by kernel_rfl) ?_ _
    refine NoPanic.normal ?_
    have HEND := Lib.hid hHeld4
    clear hHeld4
    exact HRESTA.out wx3 pA pB HEND.out HZ0.out HZ1.out HPQ.out HLO0.out HLO1.out
  · simp only [zA, zB, zC]
    refine (if_pos (by kernel_rfl)).mpr ?_
    go_wp2_with fail
    have hfx0 : Fr0 wd (wd.alloc (.cells ZB 22)) := Fr.alloc (Fr.refl _ _) _
    have HLO1 : Hid (w14.heap.size ≤ wd.heap.size) := Lib.hid (Fr.size hHeld0)
    have HZ1 : Hid (Bk (wd.alloc (.cells ZB 22)) wd.heap.size ZB 22) := Lib.hid (Bk.new wd _)
    refine hK.out _ _ (hHeld0.then0 hfx0) (fun hHeld1 => ?_)
    clear hK K hHeld0
    clear hfx0
    generalize wd.heap.size = pB at *
    generalize (wd.alloc (.cells ZB 22)) = wx0 at *
    change wpAnyH _ _ _ _ _ 3 #[true, true, true, true, true, true, true, true, true, true, false, true, false, false] _ _
    refine wpAnyH_ready (rs := [10]) (by kernel_rfl) (by simp) ?_
    refine AllReadyH.cons rfl (fun K hK => ?_) AllReadyH.nil
    simp only [zA, zB, zC]
    refine (if_pos (by kernel_rfl)).mpr ?_
    go_wp2_with fail
    have hfx1 : Fr0 wx0 (wx0.alloc (.cells ZB 22)) := Fr.alloc (Fr.refl _ _) _
    have HLO0 : Hid (w14.heap.size ≤ wx0.heap.size) := Lib.hid (Fr.size hHeld1)
    have HPQ : Hid (wx0.heap.size ≠ pB) := Lib.hid (by have h1 := Bk.lt HZ1.out; omega)
    replace HZ1 := Lib.hid (Fr.keep hfx1 HZ1.out (fun h => h))
    have HZ0 : Hid (Bk (wx0.alloc (.cells ZB 22)) wx0.heap.size ZB 22) := Lib.hid (Bk.new wx0 _)
    refine hK.out _ _ (hHeld1.then0 hfx1) (fun hHeld2 => ?_)
    clear hK K hHeld1
    clear hfx1
    generalize wx0.heap.size = pA at *
    generalize (wx0.alloc (.cells ZB 22)) = wx1 at *
    change wpAnyH _ _ _ _ _ 2 #[true, true, true, true, true, true, true, true, true, true, true, true, false, false] _ _
    refine wpAnyH_ready (rs := [12]) (by kernel_rfl) (by simp) ?_
    refine AllReadyH.cons rfl (fun K hK => ?_) AllReadyH.nil
    simp only [zA, zB, zC]
    refine (if_pos (by kernel_rfl)).mpr ?_
    refine wp_store_row 22 _ _ rfl pA (x0.map B).toArray rfl rfl 22 ZB HZ0.out (HZI.out _ HX0.out) (HZS.out _ HX0.out) (HZO.out _) ?_
    replace HZ1 := Lib.hid (show (wx1.setRow pA (x0.map B).toArray).heap[pB]? = _ from ArrKit.Bk.rowOther HZ1.out _ (HPQ.out.symm))
    replace HZ0 : Hid (Bk (wx1.setRow pA (x0.map B).toArray) pA (x0.map B).toArray 22) := Lib.hid (ArrKit.Bk.row HZ0.out _)
    refine hK.out _ _ (ArrKit.Fr.row hHeld2 _ _ (.inl HLO0.out)) (fun hHeld3 => ?_)
    clear hK K hHeld2
    generalize (wx1.setRow pA (x0.map B).toArray) = wx2 at *
    change wpAnyH _ _ _ _ _ 1 #[true, true, true, true, true, true, true, true, true, true, true, true, true, false] _ _
    refine wpAnyH_ready (rs := [13]) (by kernel_rfl) (by simp) ?_
    refine AllReadyH.cons rfl (fun K hK => ?_) AllReadyH.nil
    simp only [zA, zB, zC]
    refine (if_pos (by kernel_rfl)).mpr ?_
    refine wp_store_row 22 _ _ rfl pB (x1.map B).toArray rfl rfl 22 ZB HZ1.out (HZI.out _ HX1.out) (HZS.out _ HX1.out) (HZO.out _) ?_
    replace HZ0 := Lib.hid (show (wx2.setRow pB (x1.map B).toArray).heap[pA]? = _ from ArrKit.Bk.rowOther HZ0.out _ (HPQ.out))
    replace HZ1 : Hid (Bk (wx2.setRow pB (x1.map B).toArray) pB (x1.map B).toArray 22) := Lib.hid (ArrKit.Bk.row HZ1.out _)
    refine hK.out _ _ (ArrKit.Fr.row hHeld3 _ _ (.inl HLO1.out)) (fun hHeld4 => ?_)
    clear hK K hHeld3
    generalize (wx2.setRow pB (x1.map B).toArray) = wx3 at *
    change wpAnyH _ _ _ _ _ 0 #[true, true, true, true, true, true, true, true, true, true, true, true, true, true] _ _
    refine wpAnyH_done (by kernel_rfl) ?_ _
    refine NoPanic.normal ?_
    have HEND := Lib.hid hHeld4
    clear hHeld4
    exact HRESTA.out wx3 pA pB HEND.out HZ0.out HZ1.out HPQ.out HLO0.out HLO1.out

set_option maxHeartbeats 8000000 in
set_option maxRecDepth 100000 in
theorem lost_f (bl : List UInt8) (y0 y1 : UInt8) (w : World) (hbl : bl.length = 128) (hsh : Sh w) : Calls Tryd.prog 4 #[.agg (bl.map B).toArray, .bool false, .agg #[B y0, B y1]] w fun e w' => e = .returned (.bool true) ∧ Fr0 w w' := by
  have HSH := Lib.hid hsh
  have hT := tabL_len MA (by decide)
  obtain ⟨o0, o3, -⟩ := f_ok (tabL MA) hT
  have o4 : (G4 (tabL MA) bl).ok := writeD_ok (q := 3) o3 hbl (by decide)
  have o5 : (G4 (tabL MA) bl).ok := o4
  have o6 : (K6 (tabL MA) bl).ok := flushD_ok o5
  have hMA : MA.ok := ⟨by decide, fun x hx => by cases hx⟩
  have hx0 : (bl.set 5 (bl.getD 5 0 ^^^ y0)).length = 128 := by rw [List.length_set]; exact hbl
  have hx1 : (Z128.set 9 (Z128.getD 9 0 ^^^ y1)).length = 128 := by rw [List.length_set]; simp [Z128]
  have o61 : ((setS (K6 (tabL MA) bl) 3 ⟨(bl.set 5 (bl.getD 5 0 ^^^ y0)), false, false⟩) : Dk).ok := setS_ok o6 _ _ hx0
  have o7 : (two (K6 (tabL MA) bl) (bl.set 5 (bl.getD 5 0 ^^^ y0)) (Z128.set 9 (Z128.getD 9 0 ^^^ y1))).ok := setS_ok o61 _ _ hx1
  have HAL : Hid (∀ W, Fr0 w W → Calls Tryd.prog 5 #[] W fun e w' => e = .returned (.bool true) ∧ Fr0 W w') := Lib.hid (fun W f => alive_calls W (hsh.keep0 f))
  have HFR : Hid (∀ W, Fr0 w W → Calls Tryd.prog 6 #[] W fun e w' => ∃ sa sc ca cc, e = .returned (.tuple #[.agg (dval (F3 (tabL MA)) sa sc ca cc), .agg RZ, .bool true]) ∧ DV w' (F3 (tabL MA)) sa sc ca cc ∧ Fr0 W w') := Lib.hid (fun W f => fresh_calls W (hsh.keep0 f))
  have HPU : Hid (∀ p r W, r ≠ p → Fr0 w W → PS W p r (F3 (tabL MA)) MA → Calls Tryd.prog 7 #[.pointer (some ⟨p, 0, none⟩), .pointer (some ⟨r, 0, none⟩), .agg (bl.map B).toArray, .int .i64 3, .int .i64 (-1)] W fun e w' => e = .returned (.tuple #[.agg (PC 3 (-1) (sumOf bl)).toArray, .int .i64 0]) ∧ PS w' p r (G4 (tabL MA) bl) MA ∧ Fr (fun i => i = p ∨ i = r) W w') := Lib.hid (fun p r W hrp f h => put_calls p r (F3 (tabL MA)) (G4 (tabL MA) bl) (G4 (tabL MA) bl) MA bl 3 (-1) W o3 hMA rfl h hrp (hsh.keep0 f) hbl (by decide) (by decide) (by rw [g_c03]; decide) (by kernel_rfl) (k_home0 _ _) (by decide) (g_p1 ..) (.inl ⟨rfl, rfl⟩))
  have HFL : Hid (∀ p r W, r ≠ p → PS W p r (G4 (tabL MA) bl) MA → Calls Tryd.prog 8 #[.pointer (some ⟨p, 0, none⟩)] W fun e w' => e = .returned (.int .i64 0) ∧ PS w' p r (K6 (tabL MA) bl) MA ∧ Fr (fun i => i = p) W w') := Lib.hid (fun p r W hrp h => by
    obtain ⟨⟨sa, sc, ca, cc, h1⟩, -⟩ := id h
    have := DiskFlush.flush_calls p (G4 (tabL MA) bl) sa sc ca cc W o5 h1
    rw [k_f4] at this
    exact this.mono (fun e w' hh => ⟨hh.1, PS.now h hh.2 hrp, hh.2.fr⟩))
  have HH1 : Hid (∀ p r W, r ≠ p → PS W p r (K6 (tabL MA) bl) MA → Calls Tryd.prog 9 #[.pointer (some ⟨p, 0, none⟩), .int .i64 3, .int .i64 1, .int .i64 5, .int .u8 (y0.toNat : Int)] W fun e w' => e = .returned (.int .i64 0) ∧ PS w' p r (setS (K6 (tabL MA) bl) 3 ⟨(bl.set 5 (bl.getD 5 0 ^^^ y0)), false, false⟩) MA ∧ Fr (fun i => i = p) W w') := Lib.hid (fun p r W hrp h => by
    obtain ⟨⟨sa, sc, ca, cc, h1⟩, -⟩ := id h
    have := hit_k1 p 3 1 5 y0 (K6 (tabL MA) bl) sa sc ca cc W o6 h1 (k_r3 ..) rfl (by decide) (by decide)
    rw [k_s3] at this
    exact this.mono (fun e w' hh => ⟨hh.1, PS.now h hh.2 hrp, hh.2.fr⟩))
  have HH2 : Hid (∀ p r W, r ≠ p → PS W p r (setS (K6 (tabL MA) bl) 3 ⟨(bl.set 5 (bl.getD 5 0 ^^^ y0)), false, false⟩) MA → Calls Tryd.prog 9 #[.pointer (some ⟨p, 0, none⟩), .int .i64 25, .int .i64 1, .int .i64 9, .int .u8 (y1.toNat : Int)] W fun e w' => e = .returned (.int .i64 0) ∧ PS w' p r (two (K6 (tabL MA) bl) (bl.set 5 (bl.getD 5 0 ^^^ y0)) (Z128.set 9 (Z128.getD 9 0 ^^^ y1))) MA ∧ Fr (fun i => i = p) W w') := Lib.hid (fun p r W hrp h => by
    obtain ⟨⟨sa, sc, ca, cc, h1⟩, -⟩ := id h
    have := hit_k1 p 25 1 9 y1 (setS (K6 (tabL MA) bl) 3 ⟨(bl.set 5 (bl.getD 5 0 ^^^ y0)), false, false⟩) sa sc ca cc W o61 h1 (k_r25 ..) rfl (by decide) (by decide)
    rw [k_s25 (tabL MA) bl ⟨(bl.set 5 (bl.getD 5 0 ^^^ y0)), false, false⟩] at this
    exact this.mono (fun e w' hh => ⟨hh.1, PS.now h hh.2 hrp, hh.2.fr⟩))
  have HPL : Hid (((bl.set 5 (bl.getD 5 0 ^^^ y0)) ≠ bl → sumOf (bl.set 5 (bl.getD 5 0 ^^^ y0)) ≠ sumOf bl) → ((Z128.set 9 (Z128.getD 9 0 ^^^ y1)) ≠ bl → sumOf (Z128.set 9 (Z128.getD 9 0 ^^^ y1)) ≠ sumOf bl) → ∃ (gb : List UInt8) (n ge rx ry rz he : Int) (D8 D9 : Dk), gb.length = 128 ∧ (∀ p r W, r ≠ p → Fr0 w W → PS W p r (two (K6 (tabL MA) bl) (bl.set 5 (bl.getD 5 0 ^^^ y0)) (Z128.set 9 (Z128.getD 9 0 ^^^ y1))) MA → Calls Tryd.prog 11 #[.pointer (some ⟨p, 0, none⟩), .pointer (some ⟨r, 0, none⟩), .agg (PC 3 (-1) (sumOf bl)).toArray] W fun e w' => e = .returned (.tuple #[.agg (gb.map B).toArray, .int .i64 n, .int .i64 ge]) ∧ PS w' p r D8 MA ∧ Fr (fun i => i = p ∨ i = r) W w') ∧ (∀ p r W, r ≠ p → Fr0 w W → PS W p r D8 MA → Calls Tryd.prog 12 #[.pointer (some ⟨p, 0, none⟩), .pointer (some ⟨r, 0, none⟩), .agg (PC 3 (-1) (sumOf bl)).toArray] W fun e w' => e = .returned (.tuple #[.agg (RP rx ry rz), .int .i64 he]) ∧ PS w' p r D9 MA ∧ Fr (fun i => i = p ∨ i = r) W w') ∧ ((decide (y0 ≠ 0)) = true → ge = 2 ∧ he = 2 ∧ gb = Z128) ∧ ((decide (y0 ≠ 0)) = false → ge = 0 ∧ he = 0 ∧ gb = bl)) := Lib.hid (fun hs0 hs1 => by
    have e0 : (bl.set 5 (bl.getD 5 0 ^^^ y0)) = bl ↔ y0 = 0 := set_same (by omega) y0
    skip
    obtain ⟨gb, n, ge, rx, ry, rz, he, D8, D9, g1, g2, g3, g4, g5⟩ := lost_one (tabL MA) bl (bl.set 5 (bl.getD 5 0 ^^^ y0)) (Z128.set 9 (Z128.getD 9 0 ^^^ y1)) hs0 (decide (y0 ≠ 0)) (by rw [decide_eq_true_eq, ne_eq, ne_eq, e0])
    have hc7 : (two (K6 (tabL MA) bl) (bl.set 5 (bl.getD 5 0 ^^^ y0)) (Z128.set 9 (Z128.getD 9 0 ^^^ y1))).C.length ≤ 900 := by rw [k_c]; decide
    have g8 := getX_ok (b := (-1)) (s := sumOf bl) o7 hMA (show (Lit.int .i64 3).wf = true by decide)
    rw [g1] at g8
    refine ⟨gb, n, ge, rx, ry, rz, he, D8, D9, g8.1, fun p r W hrp f h => ?_, fun p r W hrp f h => ?_, g4, g5⟩
    · have := get_calls p r (two (K6 (tabL MA) bl) (bl.set 5 (bl.getD 5 0 ^^^ y0)) (Z128.set 9 (Z128.getD 9 0 ^^^ y1))) MA 3 (-1) (sumOf bl) W o7 hMA h hrp (hsh.keep0 f) (sumOf_length _) (by decide) (by decide) hc7
      rw [g1] at this
      exact this
    · have := look_calls p r D8 MA 3 (-1) (sumOf bl) W g8.2.1 hMA h hrp (hsh.keep0 f) (sumOf_length _) (by decide) (by decide) g3
      rw [g2] at this
      exact this)
  have HG7 := Lib.hid (two_S (K6 (tabL MA) bl) (bl.set 5 (bl.getD 5 0 ^^^ y0)) (Z128.set 9 (Z128.getD 9 0 ^^^ y1)) (k_len (tabL MA) bl))
  have HX0 := Lib.hid hx0
  have HX1 := Lib.hid hx1
  have HRV : Hid (∀ W, RV W MA none 0) := Lib.hid (fun W => rv_nil W 0)
  have HEQ : Hid (∀ x : List UInt8, x.length = 128 → ∀ W, (Op.equalIn 10000 22 (.agg (x.map B).toArray) (.agg (bl.map B).toArray)).run Tryd.prog W = .ok (decide (x = bl)) W) := Lib.hid (fun x hx W => eq_bytes (P := Tryd.prog) Tryd.underlying22 Tryd.underlying5 (by kernel_rfl) (by kernel_rfl) (by kernel_rfl) x bl hx hbl W)
  have HEZ : Hid (∀ W, (Op.equalIn 10000 22 (.agg ZB) (.agg ZB)).run Tryd.prog W = .ok true W) := Lib.hid (fun W => by
    have := eq_bytes (P := Tryd.prog) Tryd.underlying22 Tryd.underlying5 (by kernel_rfl) (by kernel_rfl) (by kernel_rfl) Z128 Z128 (by simp [Z128]) (by simp [Z128]) W
    rwa [decide_eq_true rfl, Z128_cells] at this)
  have HES : Hid (∀ x : List UInt8, ∀ W, (Op.equalIn 10000 35 (.agg ((sumOf x).map B).toArray) (.agg ((sumOf bl).map B).toArray)).run Tryd.prog W = .ok (decide (sumOf x = sumOf bl)) W) := Lib.hid (fun x => eq_bytes (P := Tryd.prog) Tryd.underlying35 Tryd.underlying5 (by kernel_rfl) (by kernel_rfl) (by kernel_rfl) (sumOf x) (sumOf bl) (sumOf_length x) (sumOf_length bl))
  have HSU : Hid (∀ (x : List UInt8) (g : Nat) (W : World), x.length = 128 → Bk W g (x.map B).toArray 22 → Calls Tryd.prog 10 #[.slice (some ⟨g, 0, none⟩) 128 128] W fun e w' => e = .returned (.agg ((sumOf x).map B).toArray) ∧ Fr0 W w') := Lib.hid (fun x g W hx hb => rsum_calls (some ⟨g, 0, none⟩) 128 128 x W hx (Rd.block hb (fun i hi => by rw [Nat.zero_add]; simp [hi])) (by omega))
  have HZI : Hid (∀ x : List UInt8, x.length = 128 → (Tryd.prog.info? 22).map (·.size) = some (x.map B).toArray.size) := Lib.hid (fun x h => info_l h)
  have HZS : Hid (∀ x : List UInt8, x.length = 128 → ZB.size = (x.map B).toArray.size) := Lib.hid (fun x h => size_l h)
  have HZO : Hid (∀ x : List UInt8, (x.map B).toArray.all (·.oneCell') = true) := Lib.hid (fun x => one_l x)
  have HLI : Hid (∀ x : List UInt8, x.length = 128 → (Tryd.prog.info? 22).map (·.size) = some (x.map B).length) := Lib.hid (fun x h => by rw [info_b, List.length_map, h])
  have HSI : Hid ((Tryd.prog.info? 35).map (·.size) = some ((sumOf bl).map B).toArray.size) := Lib.hid (info_32 _ (sumOf_length bl))
  have HSS : Hid (Z32A.size = ((sumOf bl).map B).toArray.size) := Lib.hid (by simp [Z32A, sumOf_length])
  have HSO : Hid (((sumOf bl).map B).toArray.all (·.oneCell') = true) := Lib.hid (one_l _)
  have HBN := Lib.hid hbl
  have hsl := sumOf_length bl
  have HIP := Lib.hid (info_ptr 3 (-1) hsl)
  have HSP : Hid (PtrAsk.ZERO.size = (PC 3 (-1) (sumOf bl)).toArray.size) := Lib.hid (by
    have h : (PC 3 (-1) (sumOf bl)).toArray.size = 34 := by rw [List.size_toArray, PC_length, hsl]
    rw [h]; rfl)
  have HOP : Hid ((PC 3 (-1) (sumOf bl)).toArray.all (·.oneCell') = true) := Lib.hid (by
    rw [List.all_toArray]
    generalize sumOf bl = s
    simp [PC, Value.oneCell', B_def])
  have HID : Hid (∀ d a b c e, (Tryd.prog.info? 29).map (·.size) = some (dval d a b c e).size) := Lib.hid (fun _ _ _ _ _ => info_d)
  have HDO : Hid (∀ d a b c e, (dval d a b c e).all (·.oneCell') = true) := Lib.hid (fun _ _ _ _ _ => dval_one _ _ _ _ _)
  have HIZ : Hid ((Tryd.prog.info? 32).map (·.size) = some RZ.size) := Lib.hid (info_r _ _)
  have HY0 := Lib.hid (y_ne y0)
  have HY1 := Lib.hid (y_ne y1)
  have hzd : ∀ W, (zeroValue 29).run Tryd.prog W = .ok (.agg DZ) W := by intro W; kernel_rfl
  have hzp : ∀ W, (zeroValue 37).run Tryd.prog W = .ok (.agg PtrAsk.ZERO) W := by intro W; kernel_rfl
  have hz32 : ∀ W, (zeroValue 35).run Tryd.prog W = .ok (.agg Z32A) W := by intro W; kernel_rfl
  have hzr := zero_r
  have hzb := zero_bl
  clear hsh hT o0 o3 o4 o5 o6 o61 o7 hMA hsl hbl hx0 hx1
  generalize (PC 3 (-1) (sumOf bl)).toArray = PX at *
  generalize (two (K6 (tabL MA) bl) (bl.set 5 (bl.getD 5 0 ^^^ y0)) (Z128.set 9 (Z128.getD 9 0 ^^^ y1))) = D7 at *
  generalize ((setS (K6 (tabL MA) bl) 3 ⟨(bl.set 5 (bl.getD 5 0 ^^^ y0)), false, false⟩) : Dk) = D61 at *
  generalize (K6 (tabL MA) bl) = D6 at *
  generalize (G4 (tabL MA) bl) = D5 at *
  generalize (tabL MA) = TT at *
  generalize (bl.set 5 (bl.getD 5 0 ^^^ y0)) = x0 at *
  generalize (Z128.set 9 (Z128.getD 9 0 ^^^ y1)) = x1 at *
  have HF : Hid (Fr0 w w) := Lib.hid (Fr.refl _ _)
  have HOO : Hid (0 ≤ w.heap.size) := Lib.hid (Nat.zero_le _)
  have HW0 : Hid ((#[B y0, B y1] : Array Value)[0]? = some (.int .u8 y0.toNat)) := Lib.hid rfl
  have HW1 : Hid ((#[B y0, B y1] : Array Value)[1]? = some (.int .u8 y1.toNat)) := Lib.hid rfl
  generalize (#[B y0, B y1] : Array Value) = BW at *
  go_enter Tryd.func4, Tryd.ntmps4
  go_wp2_with (first | ((with_reducible show wpList _ _ _ ({ dst := _, op := Op.box 22 _, type := _, pos := _, after := _, guard := _ } :: _) _ w); refine wpList_box_w (by rfl) 22 _ rfl (.agg (bl.map B).toArray) rfl ?_; intro g1 w1 hb hf hl1 hl2; replace HOO := Lib.hid (And.intro HOO.out (show w.heap.size ≤ g1 from by have zHF := HF.out.size; have z := HOO.out; omega)); replace HF := Lib.hid (HF.out.then0 hf); have HB : Hid (Bk w1 g1 (bl.map B).toArray 22) := Lib.hid hb; clear hb hf hl1 hl2) | ((with_reducible show wpList _ _ _ ({ dst := _, op := Op.box 59 _, type := _, pos := _, after := _, guard := _ } :: _) _ w1); refine wpList_box_w (by rfl) 59 _ rfl (.agg BW) rfl ?_; intro g2 w2 hb hf hl1 hl2; replace HOO := Lib.hid (And.intro HOO.out (show w.heap.size ≤ g2 ∧ g1 < g2 from by have zHF := HF.out.size; have bHB := Bk.lt HB.out; have z := HOO.out; omega)); replace HF := Lib.hid (HF.out.then0 hf); replace HB := Lib.hid (Fr.keep hf HB.out (fun h => h)); have HW : Hid (Bk w2 g2 BW 59) := Lib.hid hb; clear hb hf hl1 hl2) | (go_at_call 5; (with_reducible refine (HAL.out _ HF.out).mono ?_); rintro e w3 ⟨rfl, hf⟩; replace HF := Lib.hid (HF.out.then0 hf); replace HB := Lib.hid (Fr.keep hf HB.out (fun h => h)); replace HW := Lib.hid (Fr.keep hf HW.out (fun h => h)); clear hf) | (go_at_call 6; (with_reducible refine (HFR.out _ HF.out).mono ?_); rintro e w4 ⟨sa, sc, ca, cc, rfl, hv1, hf⟩; replace HF := Lib.hid (HF.out.then0 hf); replace HB := Lib.hid (Fr.keep hf HB.out (fun h => h)); replace HW := Lib.hid (Fr.keep hf HW.out (fun h => h)); have HDV := Lib.hid hv1; have HF1 : Hid (Fr0 w4 w4) := Lib.hid (Fr.refl _ _); clear hf hv1) | ((with_reducible show wpList _ _ _ ({ dst := _, op := Op.alloc 29, type := _, pos := _, after := _, guard := _ } :: _) _ w4); refine wpList_alloc_w (by rfl) 29 rfl (.agg DZ) hzd ?_; intro g3 w5 hb hf hl1 hl2; replace HOO := Lib.hid (And.intro HOO.out (show w.heap.size ≤ g3 ∧ w4.heap.size ≤ g3 ∧ g1 < g3 ∧ g2 < g3 from by have zHF := HF.out.size; have zHF1 := HF1.out.size; have bHB := Bk.lt HB.out; have bHW := Bk.lt HW.out; have z := HOO.out; omega)); replace HF := Lib.hid (HF.out.then0 hf); replace HB := Lib.hid (Fr.keep hf HB.out (fun h => h)); replace HW := Lib.hid (Fr.keep hf HW.out (fun h => h)); replace HF1 := Lib.hid (HF1.out.then0 hf); have HD : Hid (Bk w5 g3 DZ 29) := Lib.hid hb; clear hb hf hl1 hl2) | ((with_reducible show wpList _ _ _ ({ dst := _, op := Op.alloc 32, type := _, pos := _, after := _, guard := _ } :: _) _ w5); refine wpList_alloc_w (by rfl) 32 rfl (.agg RZ) hzr ?_; intro g4 w6 hb hf hl1 hl2; replace HOO := Lib.hid (And.intro HOO.out (show w.heap.size ≤ g4 ∧ w4.heap.size ≤ g4 ∧ g1 < g4 ∧ g2 < g4 ∧ g3 < g4 from by have zHF := HF.out.size; have zHF1 := HF1.out.size; have bHB := Bk.lt HB.out; have bHW := Bk.lt HW.out; have bHD := Bk.lt HD.out; have z := HOO.out; omega)); replace HF := Lib.hid (HF.out.then0 hf); replace HB := Lib.hid (Fr.keep hf HB.out (fun h => h)); replace HW := Lib.hid (Fr.keep hf HW.out (fun h => h)); replace HF1 := Lib.hid (HF1.out.then0 hf); replace HD := Lib.hid (Fr.keep hf HD.out (fun h => h)); have HT : Hid (Bk w6 g4 RZ 32) := Lib.hid hb; clear hb hf hl1 hl2) | ((with_reducible show wpList _ _ _ ({ dst := _, op := Op.store 29 _ _, type := _, pos := _, after := _, guard := _ } :: _) _ w6); refine wpList_store_row_w (by rfl) 29 _ _ rfl g3 (dval (F3 TT) sa sc ca cc) rfl rfl 29 DZ HD.out (HID.out _ _ _ _ _) rfl (HDO.out _ _ _ _ _) ?_; intro w7 hb hf hl; replace HF := Lib.hid (HF.out.then hf (fun i hi e => by have z := HOO.out; omega)); replace HB := Lib.hid (Fr.keep hf HB.out (by have z := HOO.out; omega)); replace HW := Lib.hid (Fr.keep hf HW.out (by have z := HOO.out; omega)); replace HF1 := Lib.hid (HF1.out.then hf (fun i hi e => by have z := HOO.out; omega)); replace HT := Lib.hid (Fr.keep hf HT.out (by have z := HOO.out; omega)); replace HD := Lib.hid hb; clear hb hf hl) | ((with_reducible show wpList _ _ _ ({ dst := _, op := Op.store 32 _ _, type := _, pos := _, after := _, guard := _ } :: _) _ w7); refine wpList_store_row_w (by rfl) 32 _ _ rfl g4 RZ rfl rfl 32 RZ HT.out HIZ.out rfl (RC_all _ _ _ _) ?_; intro w8 hb hf hl; replace HF := Lib.hid (HF.out.then hf (fun i hi e => by have z := HOO.out; omega)); replace HB := Lib.hid (Fr.keep hf HB.out (by have z := HOO.out; omega)); replace HW := Lib.hid (Fr.keep hf HW.out (by have z := HOO.out; omega)); replace HF1 := Lib.hid (HF1.out.then hf (fun i hi e => by have z := HOO.out; omega)); replace HD := Lib.hid (Fr.keep hf HD.out (by have z := HOO.out; omega)); replace HT := Lib.hid hb; clear hb hf hl; have HP : Hid (PS w8 g3 g4 (F3 TT) MA) := Lib.hid (PS.of (a := none) (c := 0) ⟨HD.out, HDV.out.keep HF1.out⟩ HT.out (HRV.out _)); clear HDV HF1 HD HT) | ((with_reducible show wpList _ _ _ ({ dst := _, op := Op.load 22 _, type := _, pos := _, after := _, guard := _ } :: _) _ _); refine wpList_load_row_g (by rfl) 22 _ rfl g1 rfl 22 (bl.map B).toArray (0, 0) _ HB.out Tryd.underlying22 rfl (HZI.out _ HBN.out) ?_) | (go_at_call 7; (with_reducible refine (HPU.out _ _ _ (by have z := HOO.out; omega) HF.out HP.out).mono ?_); rintro e w9 ⟨rfl, hp, hf⟩; replace HF := Lib.hid (HF.out.then hf (fun i hi e => by have z := HOO.out; omega)); replace HB := Lib.hid (Fr.keep hf HB.out (by have z := HOO.out; omega)); replace HW := Lib.hid (Fr.keep hf HW.out (by have z := HOO.out; omega)); replace HP := Lib.hid hp; clear hf hp) | ((with_reducible show wpList _ _ _ ({ dst := _, op := Op.alloc 37, type := _, pos := _, after := _, guard := _ } :: _) _ w9); refine wpList_alloc_w (by rfl) 37 rfl (.agg PtrAsk.ZERO) hzp ?_; intro g5 w10 hb hf hl1 hl2; replace HOO := Lib.hid (And.intro HOO.out (show w.heap.size ≤ g5 ∧ g1 < g5 ∧ g2 < g5 ∧ g3 < g5 ∧ g4 < g5 from by have zHF := HF.out.size; have bHB := Bk.lt HB.out; have bHW := Bk.lt HW.out; have lHP := PS.wlt HP.out; have z := HOO.out; omega)); have HA1 : Hid (Bk w10 g5 PtrAsk.ZERO 37) := Lib.hid hb; have HA2 := Lib.hid hf; have HA3 : Hid (w9.heap.size ≤ g5) := Lib.hid hl1; clear hb hf hl1 hl2) | ((with_reducible show wpList _ _ _ ({ dst := _, op := Op.store 37 _ _, type := _, pos := _, after := _, guard := _ } :: _) _ w10); refine wpList_store_row_w (by rfl) 37 _ _ rfl g5 PX rfl rfl 37 PtrAsk.ZERO HA1.out HIP.out HSP.out HOP.out ?_; intro w11 hb hf hl; have hfc : Fr0 w9 w11 := HA2.out.then hf (fun i hi e => by have z := HA3.out; omega); replace HF := Lib.hid (HF.out.then0 hfc); replace HB := Lib.hid (Fr.keep hfc HB.out (fun h => h)); replace HW := Lib.hid (Fr.keep hfc HW.out (fun h => h)); replace HP := Lib.hid (HP.out.keep0 hfc); have HQ : Hid (Bk w11 g5 PX 37) := Lib.hid hb; clear hb hf hl hfc HA1 HA2 HA3) | (go_at_call 8; (with_reducible refine (HFL.out _ _ _ (by have z := HOO.out; omega) HP.out).mono ?_); rintro e w12 ⟨rfl, hp, hf⟩; replace HF := Lib.hid (HF.out.then hf (fun i hi e => by have z := HOO.out; omega)); replace HB := Lib.hid (Fr.keep hf HB.out (by have z := HOO.out; omega)); replace HW := Lib.hid (Fr.keep hf HW.out (by have z := HOO.out; omega)); replace HQ := Lib.hid (Fr.keep hf HQ.out (by have z := HOO.out; omega)); replace HP := Lib.hid hp; clear hf hp) | ((with_reducible show wpList _ _ _ ({ dst := _, op := Op.load 5 _, type := _, pos := _, after := _, guard := _ } :: _) _ _); refine wpList_load_cell_g (by rfl) 5 _ rfl g2 0 rfl (.int .u8 y0.toNat) _ ((Bk.cell HW.out 0).trans HW0.out) Tryd.underlying5 rfl ?_) | ((with_reducible show wpList _ _ _ ({ dst := _, op := Op.load 5 _, type := _, pos := _, after := _, guard := _ } :: _) _ _); refine wpList_load_cell_g (by rfl) 5 _ rfl g2 1 rfl (.int .u8 y1.toNat) _ ((Bk.cell HW.out 1).trans HW1.out) Tryd.underlying5 rfl ?_) | (go_at_call 9; (with_reducible refine (HH1.out _ _ _ (by have z := HOO.out; omega) HP.out).mono ?_); rintro e w13 ⟨rfl, hp, hf⟩; replace HF := Lib.hid (HF.out.then hf (fun i hi e => by have z := HOO.out; omega)); replace HB := Lib.hid (Fr.keep hf HB.out (by have z := HOO.out; omega)); replace HW := Lib.hid (Fr.keep hf HW.out (by have z := HOO.out; omega)); replace HQ := Lib.hid (Fr.keep hf HQ.out (by have z := HOO.out; omega)); replace HP := Lib.hid hp; clear hf hp) | (go_at_call 9; (with_reducible refine (HH2.out _ _ _ (by have z := HOO.out; omega) HP.out).mono ?_); rintro e w14 ⟨rfl, hp, hf⟩; replace HF := Lib.hid (HF.out.then hf (fun i hi e => by have z := HOO.out; omega)); replace HB := Lib.hid (Fr.keep hf HB.out (by have z := HOO.out; omega)); replace HW := Lib.hid (Fr.keep hf HW.out (by have z := HOO.out; omega)); replace HQ := Lib.hid (Fr.keep hf HQ.out (by have z := HOO.out; omega)); replace HP := Lib.hid hp; obtain ⟨sb, so, sc2, hc0, hsc, hr0⟩ := PS.sec hp 3 (by rw [HG7.out.1]; decide); obtain ⟨sb2, so2, sc3, hc1, -, hr1⟩ := PS.sec hp 25 (by rw [HG7.out.1]; decide); rw [HG7.out.2.1] at hr0; rw [HG7.out.2.2] at hr1; rw [HG7.out.1] at hc0 hc1 hsc; have hcc := Option.some.inj (hc0.symm.trans hc1); injection hcc with hcc1 hcc2 hcc3; injection hcc1 with hcc4; injection hcc4 with hcc5 hcc6 hcc7; subst hcc5 hcc6 hcc3; have HR0 := Lib.hid hr0; have HR1 := Lib.hid hr1; have HC0 := Lib.hid hc0; clear hc1 hr0 hr1 hc0; clear hf hp))
  try simp only [Act.put, zA, zB, zC, zD, zE, zF]
  rename_i K hKA
  have HRESTA : Hid (∀ (W : World) (pA pB : Nat), Fr0 w14 W → Bk W pA (x0.map B).toArray 22 → Bk W pB (x1.map B).toArray 22 → pA ≠ pB → w14.heap.size ≤ pA → w14.heap.size ≤ pB → K { tmps := #[Value.agg (List.map B bl).toArray, Value.bool false, Value.agg BW, Value.pointer (some ⟨g1, 0, none⟩), undef, Value.pointer (some ⟨g2, 0, none⟩), Value.bool false, Value.pointer (some ⟨g3, 0, none⟩), Value.pointer (some ⟨g4, 0, none⟩), Value.bool true, Value.int IntKind.i64 (-1), Value.pointer (some ⟨g5, 0, none⟩), Value.int IntKind.i64 0, Value.int IntKind.i64 0, .pointer (some ⟨pA, 0, none⟩), .pointer (some ⟨pB, 0, none⟩), undef, undef, undef, undef, undef, undef, undef, Value.bool true, Value.bool false, Value.tuple #[Value.agg (dval (F3 TT) sa sc ca cc), Value.agg RZ, Value.bool true], Value.tuple #[Value.agg (dval (F3 TT) sa sc ca cc), Value.agg RZ, Value.bool true], Value.agg (dval (F3 TT) sa sc ca cc), Value.agg RZ, Value.bool true, Value.bool false, Value.tuple #[Value.agg PX, Value.int IntKind.i64 0], Value.agg (List.map B bl).toArray, Value.int IntKind.i64 (-1), Value.tuple #[Value.agg PX, Value.int IntKind.i64 0], Value.agg PX, Value.int IntKind.i64 0, Value.int IntKind.i64 0, Value.bool true, Value.bool false, Value.bool false, Value.int IntKind.i64 0, Value.bool false, Value.bool false, Value.bool false, Value.int IntKind.i64 0, Value.bool false, Value.bool false, Value.pointer (some ⟨g2, 0, none⟩), Value.int IntKind.u8 ↑y0.toNat, Value.int IntKind.i64 0, Value.bool false, Value.bool false, Value.pointer (some ⟨g2, 1, none⟩), Value.int IntKind.u8 ↑y1.toNat, Value.int IntKind.i64 0, Value.bool false, Value.bool false, .pointer (some ⟨g3, 0, none⟩), .slice (some ⟨sb, so, none⟩) 60 sc2, .pointer (some ⟨sb, so + 390, none⟩), .pointer (some ⟨sb, so + 390, none⟩), .agg (x0.map B).toArray, .pointer (some ⟨g3, 0, none⟩), .slice (some ⟨sb, so, none⟩) 60 sc2, .pointer (some ⟨sb, so + 3250, none⟩), .pointer (some ⟨sb, so + 3250, none⟩), .agg (x1.map B).toArray, undef, undef, undef, undef, undef, undef, undef, undef, undef, undef, undef, undef, undef, undef, undef, undef, undef, undef, undef, undef, undef, undef, undef, undef, undef, undef, undef, undef, undef, undef, undef, undef, undef, undef, undef, undef, undef, undef, undef, undef, undef, undef, undef, undef, undef, undef, undef, undef, undef, undef, undef, undef, undef, undef, undef, undef, undef, undef, undef, undef, undef, undef, undef, undef, undef, undef, undef, undef], defers := [] } W) := Lib.hid (by
    as_aux_lemma =>
      intro w15 pA pB hf hz0 hz1 hpq hlo0 hlo1
      refine hKA _ _ ?_
      have HWP := Lib.hid (PS.wlt HP.out)
      replace HOO := Lib.hid (And.intro HOO.out (show g3 < pA ∧ g4 < pA ∧ g3 < pB ∧ g4 < pB ∧ w.heap.size ≤ pA ∧ w.heap.size ≤ pB ∧ pA ≠ pB from by have h1 := HWP.out; have h2 := HF.out.size; omega))
      replace HF := Lib.hid (HF.out.then0 hf)
      replace HB := Lib.hid (Fr.keep hf HB.out (fun h => h))
      replace HW := Lib.hid (Fr.keep hf HW.out (fun h => h))
      replace HP := Lib.hid (HP.out.keep0 hf)
      replace HQ := Lib.hid (Fr.keep hf HQ.out (fun h => h))
      have HXA := Lib.hid hz0
      have HXB := Lib.hid hz1
      clear hf hz0 hz1 hpq hlo0 hlo1 HWP
      go_wp2_with (first | (go_at_call 10; (with_reducible refine (HSU.out bl g1 _ HBN.out HB.out).mono ?_); rintro e w16 ⟨rfl, hf⟩; replace HF := Lib.hid (HF.out.then0 hf); replace HB := Lib.hid (Fr.keep hf HB.out (fun h => h)); replace HW := Lib.hid (Fr.keep hf HW.out (fun h => h)); replace HP := Lib.hid (HP.out.keep0 hf); replace HQ := Lib.hid (Fr.keep hf HQ.out (fun h => h)); replace HXA := Lib.hid (Fr.keep hf HXA.out (fun h => h)); replace HXB := Lib.hid (Fr.keep hf HXB.out (fun h => h)); clear hf) | ((with_reducible show wpList _ _ _ ({ dst := _, op := Op.alloc 35, type := _, pos := _, after := _, guard := _ } :: _) _ w16); refine wpList_alloc_w (by rfl) 35 rfl (.agg Z32A) hz32 ?_; intro g6 w17 hb hf hl1 hl2; replace HOO := Lib.hid (And.intro HOO.out (show w.heap.size ≤ g6 ∧ g1 < g6 ∧ g2 < g6 ∧ g5 < g6 ∧ pA < g6 ∧ pB < g6 ∧ g3 < g6 ∧ g4 < g6 from by have zHF := HF.out.size; have bHB := Bk.lt HB.out; have bHW := Bk.lt HW.out; have bHQ := Bk.lt HQ.out; have bHXA := Bk.lt HXA.out; have bHXB := Bk.lt HXB.out; have lHP := PS.wlt HP.out; have z := HOO.out; omega)); have HA1 : Hid (Bk w17 g6 Z32A 35) := Lib.hid hb; have HA2 := Lib.hid hf; have HA3 : Hid (w16.heap.size ≤ g6) := Lib.hid hl1; clear hb hf hl1 hl2) | ((with_reducible show wpList _ _ _ ({ dst := _, op := Op.store 35 _ _, type := _, pos := _, after := _, guard := _ } :: _) _ w17); refine wpList_store_row_w (by rfl) 35 _ _ rfl g6 ((sumOf bl).map B).toArray rfl rfl 35 Z32A HA1.out HSI.out HSS.out HSO.out ?_; intro w18 hb hf hl; have hfc : Fr0 w16 w18 := HA2.out.then hf (fun i hi e => by have z := HA3.out; omega); replace HF := Lib.hid (HF.out.then0 hfc); replace HB := Lib.hid (Fr.keep hfc HB.out (fun h => h)); replace HW := Lib.hid (Fr.keep hfc HW.out (fun h => h)); replace HP := Lib.hid (HP.out.keep0 hfc); replace HQ := Lib.hid (Fr.keep hfc HQ.out (fun h => h)); replace HXA := Lib.hid (Fr.keep hfc HXA.out (fun h => h)); replace HXB := Lib.hid (Fr.keep hfc HXB.out (fun h => h)); have HSM : Hid (Bk w18 g6 ((sumOf bl).map B).toArray 35) := Lib.hid hb; clear hb hf hl hfc HA1 HA2 HA3))
      try simp only [Act.put, zA, zB, zC, zD, zE, zF]
      rename_i K2 hKB
      have HRESTB : Hid (∀ (W : World), (x0 ≠ bl → sumOf x0 ≠ sumOf bl) → (x1 ≠ bl → sumOf x1 ≠ sumOf bl) → ∀ (u70 u71 u72 u73 u74 u75 u76 u77 u78 u79 u80 u81 u82 u83 u84 u85 u86 u87 u88 : Value), Bk W pA (x0.map B).toArray 22 ∧ Bk W pB (x1.map B).toArray 22 ∧ Bk W g1 (bl.map B).toArray 22 ∧ Bk W g6 ((sumOf bl).map B).toArray 35 ∧ Fr0 w18 W → K2 { tmps := #[Value.agg (List.map B bl).toArray, Value.bool false, Value.agg BW, Value.pointer (some ⟨g1, 0, none⟩), undef, Value.pointer (some ⟨g2, 0, none⟩), Value.bool false, Value.pointer (some ⟨g3, 0, none⟩), Value.pointer (some ⟨g4, 0, none⟩), Value.bool true, Value.int IntKind.i64 (-1), Value.pointer (some ⟨g5, 0, none⟩), Value.int IntKind.i64 0, Value.int IntKind.i64 0, Value.pointer (some ⟨pA, 0, none⟩), Value.pointer (some ⟨pB, 0, none⟩), Value.pointer (some ⟨g6, 0, none⟩), undef, undef, undef, undef, undef, undef, Value.bool true, Value.bool false, Value.tuple #[Value.agg (dval (F3 TT) sa sc ca cc), Value.agg RZ, Value.bool true], Value.tuple #[Value.agg (dval (F3 TT) sa sc ca cc), Value.agg RZ, Value.bool true], Value.agg (dval (F3 TT) sa sc ca cc), Value.agg RZ, Value.bool true, Value.bool false, Value.tuple #[Value.agg PX, Value.int IntKind.i64 0], Value.agg (List.map B bl).toArray, Value.int IntKind.i64 (-1), Value.tuple #[Value.agg PX, Value.int IntKind.i64 0], Value.agg PX, Value.int IntKind.i64 0, Value.int IntKind.i64 0, Value.bool true, Value.bool false, Value.bool false, Value.int IntKind.i64 0, Value.bool false, Value.bool false, Value.bool false, Value.int IntKind.i64 0, Value.bool false, Value.bool false, Value.pointer (some ⟨g2, 0, none⟩), Value.int IntKind.u8 ↑y0.toNat, Value.int IntKind.i64 0, Value.bool false, Value.bool false, Value.pointer (some ⟨g2, 1, none⟩), Value.int IntKind.u8 ↑y1.toNat, Value.int IntKind.i64 0, Value.bool false, Value.bool false, Value.pointer (some ⟨g3, 0, none⟩), Value.slice (some { block := sb, off := so }) 60 sc2, Value.pointer (some { block := sb, off := so + 390 }), Value.pointer (some { block := sb, off := so + 390 }), Value.agg (List.map B x0).toArray, Value.pointer (some ⟨g3, 0, none⟩), Value.slice (some { block := sb, off := so }) 60 sc2, Value.pointer (some { block := sb, off := so + 3250 }), Value.pointer (some { block := sb, off := so + 3250 }), Value.agg (List.map B x1).toArray, Value.slice (some ⟨g1, 0, none⟩) 128 128, Value.agg (List.map B (sumOf bl)).toArray, u70, u71, u72, u73, u74, u75, u76, u77, u78, u79, u80, u81, u82, u83, u84, u85, u86, u87, u88, .bool false, undef, undef, undef, undef, undef, undef, undef, undef, undef, undef, undef, undef, undef, undef, undef, undef, undef, undef, undef, undef, undef, undef, undef, undef, undef, undef, undef, undef, undef, undef, undef, undef, undef, undef, undef, undef, undef, undef, undef, undef, undef, undef, undef, undef, undef, undef], defers := [] } W) := Lib.hid (by
        as_aux_lemma =>
          intro w19 hs0 hs1 u70 u71 u72 u73 u74 u75 u76 u77 u78 u79 u80 u81 u82 u83 u84 u85 u86 u87 u88 hS
          refine hKB _ _ ?_
          have hfe := (hS).2.2.2.2
          replace HF := Lib.hid (HF.out.then0 hfe)
          replace HB := Lib.hid (Fr.keep hfe HB.out (fun h => h))
          replace HW := Lib.hid (Fr.keep hfe HW.out (fun h => h))
          replace HP := Lib.hid (HP.out.keep0 hfe)
          replace HQ := Lib.hid (Fr.keep hfe HQ.out (fun h => h))
          replace HXA := Lib.hid (Fr.keep hfe HXA.out (fun h => h))
          replace HXB := Lib.hid (Fr.keep hfe HXB.out (fun h => h))
          replace HSM := Lib.hid (Fr.keep hfe HSM.out (fun h => h))
          clear hfe hS
          obtain ⟨gb, n, ge, rx, ry, rz, he, D8, D9, hgl, hget, hlook, hbad, hgood⟩ := HPL.out hs0 hs1
          have HGL := Lib.hid hgl
          have HGE := Lib.hid hget
          have HLO := Lib.hid hlook
          clear hgl hget hlook hs0 hs1 HPL
          by_cases h0 : y0 = 0
          · have z0 : ((y0.toNat : Int) != 0) = false := by rw [HY0.out]; simp [h0]
            obtain ⟨rfl, rfl, rfl⟩ := hgood (by simp [h0])
            clear hbad hgood
            have HEB : Hid (∀ W, (Op.equalIn 10000 22 (.agg (gb.map B).toArray) (.agg (gb.map B).toArray)).run Tryd.prog W = .ok true W) := Lib.hid (fun W => by have := HEQ.out gb HBN.out W; rwa [decide_eq_true rfl] at this)
            go_wp2_with (first | ((with_reducible show wpList _ _ _ ({ dst := _, op := Op.load 5 _, type := _, pos := _, after := _, guard := _ } :: _) _ _); refine wpList_load_cell_g (by rfl) 5 _ rfl g2 0 rfl (.int .u8 y0.toNat) _ ((Bk.cell HW.out 0).trans HW0.out) Tryd.underlying5 rfl ?_) | ((with_reducible show wpList _ _ _ ({ dst := _, op := Op.load 5 _, type := _, pos := _, after := _, guard := _ } :: _) _ _); refine wpList_load_cell_g (by rfl) 5 _ rfl g2 1 rfl (.int .u8 y1.toNat) _ ((Bk.cell HW.out 1).trans HW1.out) Tryd.underlying5 rfl ?_) | ((with_reducible show wpList _ _ _ ({ dst := _, op := Op.load 37 _, type := _, pos := _, after := _, guard := _ } :: _) _ _); refine wpList_load_row_g (by rfl) 37 _ rfl g5 rfl 37 PX (0, 0) _ HQ.out Tryd.underlying37 rfl HIP.out ?_) | (go_at_call 11; (with_reducible refine (HGE.out _ _ _ (by have z := HOO.out; omega) HF.out HP.out).mono ?_); rintro e w20 ⟨rfl, hp, hf⟩; replace HF := Lib.hid (HF.out.then hf (fun i hi e => by have z := HOO.out; omega)); replace HB := Lib.hid (Fr.keep hf HB.out (by have z := HOO.out; omega)); replace HW := Lib.hid (Fr.keep hf HW.out (by have z := HOO.out; omega)); replace HQ := Lib.hid (Fr.keep hf HQ.out (by have z := HOO.out; omega)); replace HXA := Lib.hid (Fr.keep hf HXA.out (by have z := HOO.out; omega)); replace HXB := Lib.hid (Fr.keep hf HXB.out (by have z := HOO.out; omega)); replace HSM := Lib.hid (Fr.keep hf HSM.out (by have z := HOO.out; omega)); replace HP := Lib.hid hp; clear hf hp) | ((with_reducible show wpList _ _ _ ({ dst := _, op := Op.alloc 22, type := _, pos := _, after := _, guard := _ } :: _) _ w20); refine wpList_alloc_w (by rfl) 22 rfl (.agg ZB) hzb ?_; intro g7 w21 hb hf hl1 hl2; replace HOO := Lib.hid (And.intro HOO.out (show w.heap.size ≤ g7 ∧ g1 < g7 ∧ g2 < g7 ∧ g5 < g7 ∧ pA < g7 ∧ pB < g7 ∧ g6 < g7 ∧ g3 < g7 ∧ g4 < g7 from by have zHF := HF.out.size; have bHB := Bk.lt HB.out; have bHW := Bk.lt HW.out; have bHQ := Bk.lt HQ.out; have bHXA := Bk.lt HXA.out; have bHXB := Bk.lt HXB.out; have bHSM := Bk.lt HSM.out; have lHP := PS.wlt HP.out; have z := HOO.out; omega)); have HA1 : Hid (Bk w21 g7 ZB 22) := Lib.hid hb; have HA2 := Lib.hid hf; have HA3 : Hid (w20.heap.size ≤ g7) := Lib.hid hl1; clear hb hf hl1 hl2) | ((with_reducible show wpList _ _ _ ({ dst := _, op := Op.store 22 _ _, type := _, pos := _, after := _, guard := _ } :: _) _ w21); refine wpList_store_row_w (by rfl) 22 _ _ rfl g7 (gb.map B).toArray rfl rfl 22 ZB HA1.out (HZI.out _ HBN.out) (HZS.out _ HBN.out) (HZO.out _) ?_; intro w22 hb hf hl; have hfc : Fr0 w20 w22 := HA2.out.then hf (fun i hi e => by have z := HA3.out; omega); replace HF := Lib.hid (HF.out.then0 hfc); replace HB := Lib.hid (Fr.keep hfc HB.out (fun h => h)); replace HW := Lib.hid (Fr.keep hfc HW.out (fun h => h)); replace HP := Lib.hid (HP.out.keep0 hfc); replace HQ := Lib.hid (Fr.keep hfc HQ.out (fun h => h)); replace HXA := Lib.hid (Fr.keep hfc HXA.out (fun h => h)); replace HXB := Lib.hid (Fr.keep hfc HXB.out (fun h => h)); replace HSM := Lib.hid (Fr.keep hfc HSM.out (fun h => h)); have HC : Hid (Bk w22 g7 (gb.map B).toArray 22) := Lib.hid hb; clear hb hf hl hfc HA1 HA2 HA3) | (go_at_call 12; (with_reducible refine (HLO.out _ _ _ (by have z := HOO.out; omega) HF.out HP.out).mono ?_); rintro e w23 ⟨rfl, hp, hf⟩; replace HF := Lib.hid (HF.out.then hf (fun i hi e => by have z := HOO.out; omega)); replace HB := Lib.hid (Fr.keep hf HB.out (by have z := HOO.out; omega)); replace HW := Lib.hid (Fr.keep hf HW.out (by have z := HOO.out; omega)); replace HQ := Lib.hid (Fr.keep hf HQ.out (by have z := HOO.out; omega)); replace HXA := Lib.hid (Fr.keep hf HXA.out (by have z := HOO.out; omega)); replace HXB := Lib.hid (Fr.keep hf HXB.out (by have z := HOO.out; omega)); replace HSM := Lib.hid (Fr.keep hf HSM.out (by have z := HOO.out; omega)); replace HC := Lib.hid (Fr.keep hf HC.out (by have z := HOO.out; omega)); replace HP := Lib.hid hp; clear hf hp) | ((with_reducible show wpList _ _ _ ({ dst := _, op := Op.alloc 53, type := _, pos := _, after := _, guard := _ } :: _) _ w23); refine wpList_alloc_w (by rfl) 53 rfl (.agg (RP 0 0 0)) zero_rp ?_; intro g8 w24 hb hf hl1 hl2; replace HOO := Lib.hid (And.intro HOO.out (show w.heap.size ≤ g8 ∧ g1 < g8 ∧ g2 < g8 ∧ g5 < g8 ∧ pA < g8 ∧ pB < g8 ∧ g6 < g8 ∧ g7 < g8 ∧ g3 < g8 ∧ g4 < g8 from by have zHF := HF.out.size; have bHB := Bk.lt HB.out; have bHW := Bk.lt HW.out; have bHQ := Bk.lt HQ.out; have bHXA := Bk.lt HXA.out; have bHXB := Bk.lt HXB.out; have bHSM := Bk.lt HSM.out; have bHC := Bk.lt HC.out; have lHP := PS.wlt HP.out; have z := HOO.out; omega)); have HA1 : Hid (Bk w24 g8 (RP 0 0 0) 53) := Lib.hid hb; have HA2 := Lib.hid hf; have HA3 : Hid (w23.heap.size ≤ g8) := Lib.hid hl1; clear hb hf hl1 hl2) | ((with_reducible show wpList _ _ _ ({ dst := _, op := Op.store 53 _ _, type := _, pos := _, after := _, guard := _ } :: _) _ w24); refine wpList_store_row_w (by rfl) 53 _ _ rfl g8 (RP rx ry rz) rfl rfl 53 (RP 0 0 0) HA1.out (info_rp rx ry rz) rfl (one_rp rx ry rz) ?_; intro w25 hb hf hl; have hfc : Fr0 w23 w25 := HA2.out.then hf (fun i hi e => by have z := HA3.out; omega); replace HF := Lib.hid (HF.out.then0 hfc); replace HB := Lib.hid (Fr.keep hfc HB.out (fun h => h)); replace HW := Lib.hid (Fr.keep hfc HW.out (fun h => h)); replace HP := Lib.hid (HP.out.keep0 hfc); replace HQ := Lib.hid (Fr.keep hfc HQ.out (fun h => h)); replace HXA := Lib.hid (Fr.keep hfc HXA.out (fun h => h)); replace HXB := Lib.hid (Fr.keep hfc HXB.out (fun h => h)); replace HSM := Lib.hid (Fr.keep hfc HSM.out (fun h => h)); replace HC := Lib.hid (Fr.keep hfc HC.out (fun h => h)); have HL : Hid (Bk w25 g8 (RP rx ry rz) 53) := Lib.hid hb; clear hb hf hl hfc HA1 HA2 HA3) | ((with_reducible show wpList _ _ _ ({ dst := _, op := Op.load 22 _, type := _, pos := _, after := _, guard := _ } :: _) _ _); refine wpList_load_row_g (by rfl) 22 _ rfl g7 rfl 22 (gb.map B).toArray (0, 0) _ HC.out Tryd.underlying22 rfl (HZI.out _ HBN.out) ?_) | ((with_reducible show wpList _ _ _ ({ dst := _, op := Op.load 22 _, type := _, pos := _, after := _, guard := _ } :: _) _ _); refine wpList_load_row_g (by rfl) 22 _ rfl g1 rfl 22 (gb.map B).toArray (0, 0) _ HB.out Tryd.underlying22 rfl (HZI.out _ HBN.out) ?_) | ((with_reducible show wpList _ _ _ ({ dst := _, op := Op.binOp .eql 22 _ _ _, type := _, pos := _, after := _, guard := _ } :: _) _ _); refine wpList_eql_g (by rfl) rfl rfl rfl guard_b HEB.out ?_))
            go_ret
            exact ⟨rfl, HF.out⟩
          · have z0 : ((y0.toNat : Int) != 0) = true := by rw [HY0.out]; simp [h0]
            obtain ⟨rfl, rfl, rfl⟩ := hbad (by simp [h0])
            clear hbad hgood
            have HIZB : Hid ((Tryd.prog.info? 22).map (·.size) = some ZB.size) := Lib.hid (by have := HZI.out Z128 HGL.out; rwa [Z128_cells] at this)
            have HOZB : Hid (ZB.all (·.oneCell') = true) := Lib.hid (by have := HZO.out Z128; rwa [Z128_cells] at this)
            rw [Z128_cells] at HGE
            go_wp2_with (first | ((with_reducible show wpList _ _ _ ({ dst := _, op := Op.load 5 _, type := _, pos := _, after := _, guard := _ } :: _) _ _); refine wpList_load_cell_g (by rfl) 5 _ rfl g2 0 rfl (.int .u8 y0.toNat) _ ((Bk.cell HW.out 0).trans HW0.out) Tryd.underlying5 rfl ?_) | ((with_reducible show wpList _ _ _ ({ dst := _, op := Op.load 5 _, type := _, pos := _, after := _, guard := _ } :: _) _ _); refine wpList_load_cell_g (by rfl) 5 _ rfl g2 1 rfl (.int .u8 y1.toNat) _ ((Bk.cell HW.out 1).trans HW1.out) Tryd.underlying5 rfl ?_) | ((with_reducible show wpList _ _ _ ({ dst := _, op := Op.load 37 _, type := _, pos := _, after := _, guard := _ } :: _) _ _); refine wpList_load_row_g (by rfl) 37 _ rfl g5 rfl 37 PX (0, 0) _ HQ.out Tryd.underlying37 rfl HIP.out ?_) | (go_at_call 11; (with_reducible refine (HGE.out _ _ _ (by have z := HOO.out; omega) HF.out HP.out).mono ?_); rintro e w20 ⟨rfl, hp, hf⟩; replace HF := Lib.hid (HF.out.then hf (fun i hi e => by have z := HOO.out; omega)); replace HB := Lib.hid (Fr.keep hf HB.out (by have z := HOO.out; omega)); replace HW := Lib.hid (Fr.keep hf HW.out (by have z := HOO.out; omega)); replace HQ := Lib.hid (Fr.keep hf HQ.out (by have z := HOO.out; omega)); replace HXA := Lib.hid (Fr.keep hf HXA.out (by have z := HOO.out; omega)); replace HXB := Lib.hid (Fr.keep hf HXB.out (by have z := HOO.out; omega)); replace HSM := Lib.hid (Fr.keep hf HSM.out (by have z := HOO.out; omega)); replace HP := Lib.hid hp; clear hf hp) | ((with_reducible show wpList _ _ _ ({ dst := _, op := Op.alloc 22, type := _, pos := _, after := _, guard := _ } :: _) _ w20); refine wpList_alloc_w (by rfl) 22 rfl (.agg ZB) hzb ?_; intro g7 w21 hb hf hl1 hl2; replace HOO := Lib.hid (And.intro HOO.out (show w.heap.size ≤ g7 ∧ g1 < g7 ∧ g2 < g7 ∧ g5 < g7 ∧ pA < g7 ∧ pB < g7 ∧ g6 < g7 ∧ g3 < g7 ∧ g4 < g7 from by have zHF := HF.out.size; have bHB := Bk.lt HB.out; have bHW := Bk.lt HW.out; have bHQ := Bk.lt HQ.out; have bHXA := Bk.lt HXA.out; have bHXB := Bk.lt HXB.out; have bHSM := Bk.lt HSM.out; have lHP := PS.wlt HP.out; have z := HOO.out; omega)); have HA1 : Hid (Bk w21 g7 ZB 22) := Lib.hid hb; have HA2 := Lib.hid hf; have HA3 : Hid (w20.heap.size ≤ g7) := Lib.hid hl1; clear hb hf hl1 hl2) | ((with_reducible show wpList _ _ _ ({ dst := _, op := Op.store 22 _ _, type := _, pos := _, after := _, guard := _ } :: _) _ w21); refine wpList_store_row_w (by rfl) 22 _ _ rfl g7 ZB rfl rfl 22 ZB HA1.out HIZB.out rfl HOZB.out ?_; intro w22 hb hf hl; have hfc : Fr0 w20 w22 := HA2.out.then hf (fun i hi e => by have z := HA3.out; omega); replace HF := Lib.hid (HF.out.then0 hfc); replace HB := Lib.hid (Fr.keep hfc HB.out (fun h => h)); replace HW := Lib.hid (Fr.keep hfc HW.out (fun h => h)); replace HP := Lib.hid (HP.out.keep0 hfc); replace HQ := Lib.hid (Fr.keep hfc HQ.out (fun h => h)); replace HXA := Lib.hid (Fr.keep hfc HXA.out (fun h => h)); replace HXB := Lib.hid (Fr.keep hfc HXB.out (fun h => h)); replace HSM := Lib.hid (Fr.keep hfc HSM.out (fun h => h)); have HC : Hid (Bk w22 g7 ZB 22) := Lib.hid hb; clear hb hf hl hfc HA1 HA2 HA3) | (go_at_call 12; (with_reducible refine (HLO.out _ _ _ (by have z := HOO.out; omega) HF.out HP.out).mono ?_); rintro e w23 ⟨rfl, hp, hf⟩; replace HF := Lib.hid (HF.out.then hf (fun i hi e => by have z := HOO.out; omega)); replace HB := Lib.hid (Fr.keep hf HB.out (by have z := HOO.out; omega)); replace HW := Lib.hid (Fr.keep hf HW.out (by have z := HOO.out; omega)); replace HQ := Lib.hid (Fr.keep hf HQ.out (by have z := HOO.out; omega)); replace HXA := Lib.hid (Fr.keep hf HXA.out (by have z := HOO.out; omega)); replace HXB := Lib.hid (Fr.keep hf HXB.out (by have z := HOO.out; omega)); replace HSM := Lib.hid (Fr.keep hf HSM.out (by have z := HOO.out; omega)); replace HC := Lib.hid (Fr.keep hf HC.out (by have z := HOO.out; omega)); replace HP := Lib.hid hp; clear hf hp) | ((with_reducible show wpList _ _ _ ({ dst := _, op := Op.alloc 53, type := _, pos := _, after := _, guard := _ } :: _) _ w23); refine wpList_alloc_w (by rfl) 53 rfl (.agg (RP 0 0 0)) zero_rp ?_; intro g8 w24 hb hf hl1 hl2; replace HOO := Lib.hid (And.intro HOO.out (show w.heap.size ≤ g8 ∧ g1 < g8 ∧ g2 < g8 ∧ g5 < g8 ∧ pA < g8 ∧ pB < g8 ∧ g6 < g8 ∧ g7 < g8 ∧ g3 < g8 ∧ g4 < g8 from by have zHF := HF.out.size; have bHB := Bk.lt HB.out; have bHW := Bk.lt HW.out; have bHQ := Bk.lt HQ.out; have bHXA := Bk.lt HXA.out; have bHXB := Bk.lt HXB.out; have bHSM := Bk.lt HSM.out; have bHC := Bk.lt HC.out; have lHP := PS.wlt HP.out; have z := HOO.out; omega)); have HA1 : Hid (Bk w24 g8 (RP 0 0 0) 53) := Lib.hid hb; have HA2 := Lib.hid hf; have HA3 : Hid (w23.heap.size ≤ g8) := Lib.hid hl1; clear hb hf hl1 hl2) | ((with_reducible show wpList _ _ _ ({ dst := _, op := Op.store 53 _ _, type := _, pos := _, after := _, guard := _ } :: _) _ w24); refine wpList_store_row_w (by rfl) 53 _ _ rfl g8 (RP rx ry rz) rfl rfl 53 (RP 0 0 0) HA1.out (info_rp rx ry rz) rfl (one_rp rx ry rz) ?_; intro w25 hb hf hl; have hfc : Fr0 w23 w25 := HA2.out.then hf (fun i hi e => by have z := HA3.out; omega); replace HF := Lib.hid (HF.out.then0 hfc); replace HB := Lib.hid (Fr.keep hfc HB.out (fun h => h)); replace HW := Lib.hid (Fr.keep hfc HW.out (fun h => h)); replace HP := Lib.hid (HP.out.keep0 hfc); replace HQ := Lib.hid (Fr.keep hfc HQ.out (fun h => h)); replace HXA := Lib.hid (Fr.keep hfc HXA.out (fun h => h)); replace HXB := Lib.hid (Fr.keep hfc HXB.out (fun h => h)); replace HSM := Lib.hid (Fr.keep hfc HSM.out (fun h => h)); replace HC := Lib.hid (Fr.keep hfc HC.out (fun h => h)); have HL : Hid (Bk w25 g8 (RP rx ry rz) 53) := Lib.hid hb; clear hb hf hl hfc HA1 HA2 HA3) | ((with_reducible show wpList _ _ _ ({ dst := _, op := Op.load 22 _, type := _, pos := _, after := _, guard := _ } :: _) _ _); refine wpList_load_row_g (by rfl) 22 _ rfl g7 rfl 22 ZB (0, 0) _ HC.out Tryd.underlying22 rfl HIZB.out ?_) | ((with_reducible show wpList _ _ _ ({ dst := _, op := Op.build 22 _, type := _, pos := _, after := _, guard := _ } :: _) _ _); refine build_zb_g (by rfl) _ rfl ?_) | ((with_reducible show wpList _ _ _ ({ dst := _, op := Op.binOp .eql 22 _ _ _, type := _, pos := _, after := _, guard := _ } :: _) _ _); refine wpList_eql_g (by rfl) rfl rfl rfl guard_b HEZ.out ?_))
            go_ret
            exact ⟨rfl, HF.out⟩
        )
      have HRESTC : Hid (∀ (W : World) (u70 u71 u72 u73 u74 u75 u76 u77 u78 u79 u80 u81 u82 u83 u84 u85 u86 u87 u88 : Value), Fr0 w18 W → K2 { tmps := #[Value.agg (List.map B bl).toArray, Value.bool false, Value.agg BW, Value.pointer (some ⟨g1, 0, none⟩), undef, Value.pointer (some ⟨g2, 0, none⟩), Value.bool false, Value.pointer (some ⟨g3, 0, none⟩), Value.pointer (some ⟨g4, 0, none⟩), Value.bool true, Value.int IntKind.i64 (-1), Value.pointer (some ⟨g5, 0, none⟩), Value.int IntKind.i64 0, Value.int IntKind.i64 0, Value.pointer (some ⟨pA, 0, none⟩), Value.pointer (some ⟨pB, 0, none⟩), Value.pointer (some ⟨g6, 0, none⟩), undef, undef, undef, undef, undef, undef, Value.bool true, Value.bool false, Value.tuple #[Value.agg (dval (F3 TT) sa sc ca cc), Value.agg RZ, Value.bool true], Value.tuple #[Value.agg (dval (F3 TT) sa sc ca cc), Value.agg RZ, Value.bool true], Value.agg (dval (F3 TT) sa sc ca cc), Value.agg RZ, Value.bool true, Value.bool false, Value.tuple #[Value.agg PX, Value.int IntKind.i64 0], Value.agg (List.map B bl).toArray, Value.int IntKind.i64 (-1), Value.tuple #[Value.agg PX, Value.int IntKind.i64 0], Value.agg PX, Value.int IntKind.i64 0, Value.int IntKind.i64 0, Value.bool true, Value.bool false, Value.bool false, Value.int IntKind.i64 0, Value.bool false, Value.bool false, Value.bool false, Value.int IntKind.i64 0, Value.bool false, Value.bool false, Value.pointer (some ⟨g2, 0, none⟩), Value.int IntKind.u8 ↑y0.toNat, Value.int IntKind.i64 0, Value.bool false, Value.bool false, Value.pointer (some ⟨g2, 1, none⟩), Value.int IntKind.u8 ↑y1.toNat, Value.int IntKind.i64 0, Value.bool false, Value.bool false, Value.pointer (some ⟨g3, 0, none⟩), Value.slice (some { block := sb, off := so }) 60 sc2, Value.pointer (some { block := sb, off := so + 390 }), Value.pointer (some { block := sb, off := so + 390 }), Value.agg (List.map B x0).toArray, Value.pointer (some ⟨g3, 0, none⟩), Value.slice (some { block := sb, off := so }) 60 sc2, Value.pointer (some { block := sb, off := so + 3250 }), Value.pointer (some { block := sb, off := so + 3250 }), Value.agg (List.map B x1).toArray, Value.slice (some ⟨g1, 0, none⟩) 128 128, Value.agg (List.map B (sumOf bl)).toArray, u70, u71, u72, u73, u74, u75, u76, u77, u78, u79, u80, u81, u82, u83, u84, u85, u86, u87, u88, .bool true, undef, undef, undef, undef, undef, undef, undef, undef, undef, undef, undef, undef, undef, undef, undef, undef, undef, undef, undef, undef, undef, undef, undef, undef, undef, undef, undef, undef, undef, undef, undef, undef, undef, undef, undef, undef, undef, undef, undef, undef, undef, undef, undef, undef, undef, undef], defers := [] } W) := Lib.hid (by
        intro wz u70 u71 u72 u73 u74 u75 u76 u77 u78 u79 u80 u81 u82 u83 u84 u85 u86 u87 u88 hfz
        refine hKB _ _ ?_
        replace HF := Lib.hid (HF.out.then0 hfz)
        go_wp2
        go_ret
        exact ⟨rfl, HF.out⟩)
      clear hKB HPL
      have HEQ0 := Lib.hid (HEQ.out x0 HX0.out)
      have HEQ1 := Lib.hid (HEQ.out x1 HX1.out)
      have HES0 := Lib.hid (HES.out x0)
      have HES1 := Lib.hid (HES.out x1)
      by_cases e0 : x0 = bl
      · rw [decide_eq_true e0] at HEQ0
        have E0 := Lib.hid e0
        clear e0
        by_cases e1 : x1 = bl
        · rw [decide_eq_true e1] at HEQ1
          have E1 := Lib.hid e1
          clear e1
          refine wp_region_noPanic ?_
          refine wp_region_held_drew (S := (fun W : World => Bk W pA (x0.map B).toArray 22 ∧ Bk W pB (x1.map B).toArray 22 ∧ Bk W g1 (bl.map B).toArray 22 ∧ Bk W g6 ((sumOf bl).map B).toArray 35 ∧ Fr0 w18 W)) (by kernel_rfl) (⟨Fr.keep (Fr.drew (Fr.refl (fun _ => False) _)) HXA.out (fun h => h), Fr.keep (Fr.drew (Fr.refl (fun _ => False) _)) HXB.out (fun h => h), Fr.keep (Fr.drew (Fr.refl (fun _ => False) _)) HB.out (fun h => h), Fr.keep (Fr.drew (Fr.refl (fun _ => False) _)) HSM.out (fun h => h), Fr.drew (Fr.refl _ _)⟩) (fun hHeld0 => ?_)
          refine tk (i := 0) (v := .agg (x0.map B).toArray) rfl (yields_row (by kernel_rfl) 22 _ rfl (pA) rfl 22 (x0.map B).toArray (0, 0) _ (fun W h => (h).1) Tryd.underlying22 rfl (HZI.out _ HX0.out)) hHeld0 ?_
          simp only [Act.put, zA, zB, zC, zD, zE, zF]
          refine tk (i := 1) (v := .agg (bl.map B).toArray) rfl (yields_row (by kernel_rfl) 22 _ rfl (g1) rfl 22 (bl.map B).toArray (0, 0) _ (fun W h => (h).2.2.1) Tryd.underlying22 rfl (HZI.out _ HBN.out)) hHeld0 ?_
          simp only [Act.put, zA, zB, zC, zD, zE, zF]
          refine tk (i := 2) (v := .bool false) rfl (Or.inl ⟨by kernel_rfl, fun w hSw => DiskSame.run_neq_op rfl rfl rfl guard_b HEQ0.out w⟩) hHeld0 ?_
          simp only [Act.put, zA, zB, zC, zD, zE, zF]
          refine tk0 (i := 3) (v := .bool false) rfl hHeld0 ?_
          simp only [Act.put, zA, zB, zC, zD, zE, zF]
          refine tk (i := 4) (v := undef) rfl (Or.inr ⟨by kernel_rfl, rfl⟩) hHeld0 ?_
          simp only [Act.put, zA, zB, zC, zD, zE, zF]
          refine tk (i := 5) (v := undef) rfl (Or.inr ⟨by kernel_rfl, rfl⟩) hHeld0 ?_
          simp only [Act.put, zA, zB, zC, zD, zE, zF]
          refine tk (i := 6) (v := undef) rfl (Or.inr ⟨by kernel_rfl, rfl⟩) hHeld0 ?_
          simp only [Act.put, zA, zB, zC, zD, zE, zF]
          refine tk (i := 7) (v := undef) rfl (Or.inr ⟨by kernel_rfl, rfl⟩) hHeld0 ?_
          simp only [Act.put, zA, zB, zC, zD, zE, zF]
          refine tk0 (i := 8) (v := .bool false) rfl hHeld0 ?_
          simp only [Act.put, zA, zB, zC, zD, zE, zF]
          refine tk0 (i := 9) (v := .bool false) rfl hHeld0 ?_
          simp only [Act.put, zA, zB, zC, zD, zE, zF]
          refine tk (i := 10) (v := .agg (x1.map B).toArray) rfl (yields_row (by kernel_rfl) 22 _ rfl (pB) rfl 22 (x1.map B).toArray (0, 0) _ (fun W h => (h).2.1) Tryd.underlying22 rfl (HZI.out _ HX1.out)) hHeld0 ?_
          simp only [Act.put, zA, zB, zC, zD, zE, zF]
          refine tk (i := 11) (v := .agg (bl.map B).toArray) rfl (yields_row (by kernel_rfl) 22 _ rfl (g1) rfl 22 (bl.map B).toArray (0, 0) _ (fun W h => (h).2.2.1) Tryd.underlying22 rfl (HZI.out _ HBN.out)) hHeld0 ?_
          simp only [Act.put, zA, zB, zC, zD, zE, zF]
          refine tk (i := 12) (v := .bool false) rfl (Or.inl ⟨by kernel_rfl, fun w hSw => DiskSame.run_neq_op rfl rfl rfl guard_b HEQ1.out w⟩) hHeld0 ?_
          simp only [Act.put, zA, zB, zC, zD, zE, zF]
          refine tk0 (i := 13) (v := .bool false) rfl hHeld0 ?_
          simp only [Act.put, zA, zB, zC, zD, zE, zF]
          refine tk (i := 14) (v := undef) rfl (Or.inr ⟨by kernel_rfl, rfl⟩) hHeld0 ?_
          simp only [Act.put, zA, zB, zC, zD, zE, zF]
          refine tk (i := 15) (v := undef) rfl (Or.inr ⟨by kernel_rfl, rfl⟩) hHeld0 ?_
          simp only [Act.put, zA, zB, zC, zD, zE, zF]
          refine tk (i := 16) (v := undef) rfl (Or.inr ⟨by kernel_rfl, rfl⟩) hHeld0 ?_
          simp only [Act.put, zA, zB, zC, zD, zE, zF]
          refine tk (i := 17) (v := undef) rfl (Or.inr ⟨by kernel_rfl, rfl⟩) hHeld0 ?_
          simp only [Act.put, zA, zB, zC, zD, zE, zF]
          refine tk0 (i := 18) (v := .bool false) rfl hHeld0 ?_
          simp only [Act.put, zA, zB, zC, zD, zE, zF]
          refine tk0 (i := 19) (v := .bool false) rfl hHeld0 ?_
          simp only [Act.put, zA, zB, zC, zD, zE, zF]
          change wpAnyH _ _ _ _ _ 0 #[true, true, true, true, true, true, true, true, true, true, true, true, true, true, true, true, true, true, true, true] _ _
          refine wpAnyH_done (by kernel_rfl) ?_ _
          refine NoPanic.normal ?_
          have HEND := Lib.hid hHeld0
          clear hHeld0
          show K2 _ _
          exact HRESTB.out _ (fun h => absurd E0.out h) (fun h => absurd E1.out h) _ _ _ _ _ _ _ _ _ _ _ _ _ _ _ _ _ _ _ HEND.out
        · by_cases q1 : sumOf x1 = sumOf bl
          · rw [decide_eq_false e1] at HEQ1
            rw [decide_eq_true q1] at HES1
            clear e1 q1
            refine wp_region_noPanic ?_
            refine wp_region_held_drew (S := (fun W : World => Bk W pA (x0.map B).toArray 22 ∧ Bk W pB (x1.map B).toArray 22 ∧ Bk W g1 (bl.map B).toArray 22 ∧ Bk W g6 ((sumOf bl).map B).toArray 35 ∧ Fr0 w18 W)) (by kernel_rfl) (⟨Fr.keep (Fr.drew (Fr.refl (fun _ => False) _)) HXA.out (fun h => h), Fr.keep (Fr.drew (Fr.refl (fun _ => False) _)) HXB.out (fun h => h), Fr.keep (Fr.drew (Fr.refl (fun _ => False) _)) HB.out (fun h => h), Fr.keep (Fr.drew (Fr.refl (fun _ => False) _)) HSM.out (fun h => h), Fr.drew (Fr.refl _ _)⟩) (fun hHeld0 => ?_)
            refine tk (i := 0) (v := .agg (x0.map B).toArray) rfl (yields_row (by kernel_rfl) 22 _ rfl (pA) rfl 22 (x0.map B).toArray (0, 0) _ (fun W h => (h).1) Tryd.underlying22 rfl (HZI.out _ HX0.out)) hHeld0 ?_
            simp only [Act.put, zA, zB, zC, zD, zE, zF]
            refine tk (i := 1) (v := .agg (bl.map B).toArray) rfl (yields_row (by kernel_rfl) 22 _ rfl (g1) rfl 22 (bl.map B).toArray (0, 0) _ (fun W h => (h).2.2.1) Tryd.underlying22 rfl (HZI.out _ HBN.out)) hHeld0 ?_
            simp only [Act.put, zA, zB, zC, zD, zE, zF]
            refine tk (i := 2) (v := .bool false) rfl (Or.inl ⟨by kernel_rfl, fun w hSw => DiskSame.run_neq_op rfl rfl rfl guard_b HEQ0.out w⟩) hHeld0 ?_
            simp only [Act.put, zA, zB, zC, zD, zE, zF]
            refine tk0 (i := 3) (v := .bool false) rfl hHeld0 ?_
            simp only [Act.put, zA, zB, zC, zD, zE, zF]
            refine tk (i := 4) (v := undef) rfl (Or.inr ⟨by kernel_rfl, rfl⟩) hHeld0 ?_
            simp only [Act.put, zA, zB, zC, zD, zE, zF]
            refine tk (i := 5) (v := undef) rfl (Or.inr ⟨by kernel_rfl, rfl⟩) hHeld0 ?_
            simp only [Act.put, zA, zB, zC, zD, zE, zF]
            refine tk (i := 6) (v := undef) rfl (Or.inr ⟨by kernel_rfl, rfl⟩) hHeld0 ?_
            simp only [Act.put, zA, zB, zC, zD, zE, zF]
            refine tk (i := 7) (v := undef) rfl (Or.inr ⟨by kernel_rfl, rfl⟩) hHeld0 ?_
            simp only [Act.put, zA, zB, zC, zD, zE, zF]
            refine tk0 (i := 8) (v := .bool false) rfl hHeld0 ?_
            simp only [Act.put, zA, zB, zC, zD, zE, zF]
            refine tk0 (i := 9) (v := .bool false) rfl hHeld0 ?_
            simp only [Act.put, zA, zB, zC, zD, zE, zF]
            refine tk (i := 10) (v := .agg (x1.map B).toArray) rfl (yields_row (by kernel_rfl) 22 _ rfl (pB) rfl 22 (x1.map B).toArray (0, 0) _ (fun W h => (h).2.1) Tryd.underlying22 rfl (HZI.out _ HX1.out)) hHeld0 ?_
            simp only [Act.put, zA, zB, zC, zD, zE, zF]
            refine tk (i := 11) (v := .agg (bl.map B).toArray) rfl (yields_row (by kernel_rfl) 22 _ rfl (g1) rfl 22 (bl.map B).toArray (0, 0) _ (fun W h => (h).2.2.1) Tryd.underlying22 rfl (HZI.out _ HBN.out)) hHeld0 ?_
            simp only [Act.put, zA, zB, zC, zD, zE, zF]
            refine tk (i := 12) (v := .bool true) rfl (Or.inl ⟨by kernel_rfl, fun w hSw => DiskSame.run_neq_op rfl rfl rfl guard_b HEQ1.out w⟩) hHeld0 ?_
            simp only [Act.put, zA, zB, zC, zD, zE, zF]
            refine tk0 (i := 13) (v := .bool true) rfl hHeld0 ?_
            simp only [Act.put, zA, zB, zC, zD, zE, zF]
            refine tk (i := 14) (v := .slice (some ⟨pB, 0, none⟩) 128 128) rfl (Or.inl ⟨by kernel_rfl, fun w hSw => by kernel_rfl⟩) hHeld0 ?_
            simp only [Act.put, zA, zB, zC, zD, zE, zF]
            refine tk (i := 16) (v := .agg ((sumOf bl).map B).toArray) rfl (yields_row (by kernel_rfl) 35 _ rfl (g6) rfl 35 ((sumOf bl).map B).toArray (0, 0) _ (fun W h => (h).2.2.2.1) Tryd.underlying35 rfl HSI.out) hHeld0 ?_
            simp only [Act.put, zA, zB, zC, zD, zE, zF]
            change wpAnyH _ _ _ _ _ 4 #[true, true, true, true, true, true, true, true, true, true, true, true, true, true, true, false, true, false, false, false] _ _
            refine wpAnyH_ready (rs := [15]) (by kernel_rfl) (by simp) ?_
            refine AllReadyH.cons rfl (fun K hK => ?_) AllReadyH.nil
            simp only [zA, zB, zC]
            refine (if_pos (by kernel_rfl)).mpr ?_
            go_wp2_with fail
            refine (HSU.out _ _ _ HX1.out (hHeld0).2.1).mono ?_
            rintro e wx0 ⟨rfl, hfx0⟩
            dsimp only
            refine hK.out _ _ (⟨Fr.keep hfx0 (hHeld0).1 (fun h => h), Fr.keep hfx0 (hHeld0).2.1 (fun h => h), Fr.keep hfx0 (hHeld0).2.2.1 (fun h => h), Fr.keep hfx0 (hHeld0).2.2.2.1 (fun h => h), ((hHeld0).2.2.2.2).then0 hfx0⟩) (fun hHeld1 => ?_)
            clear hK K hHeld0
            refine tk (i := 17) (v := .bool true) rfl (Or.inl ⟨by kernel_rfl, fun w hSw => run_eql_op rfl rfl rfl (by kernel_rfl) HES1.out w⟩) hHeld1 ?_
            simp only [Act.put, zA, zB, zC, zD, zE, zF]
            refine tk0 (i := 18) (v := .bool true) rfl hHeld1 ?_
            simp only [Act.put, zA, zB, zC, zD, zE, zF]
            refine tk0 (i := 19) (v := .bool true) rfl hHeld1 ?_
            simp only [Act.put, zA, zB, zC, zD, zE, zF]
            change wpAnyH _ _ _ _ _ 0 #[true, true, true, true, true, true, true, true, true, true, true, true, true, true, true, true, true, true, true, true] _ _
            refine wpAnyH_done (by kernel_rfl) ?_ _
            refine NoPanic.normal ?_
            have HEND := Lib.hid hHeld1
            clear hHeld1
            show K2 _ _
            exact HRESTC.out _ _ _ _ _ _ _ _ _ _ _ _ _ _ _ _ _ _ _ _ (HEND.out).2.2.2.2
          · rw [decide_eq_false e1] at HEQ1
            rw [decide_eq_false q1] at HES1
            have Q1 := Lib.hid q1
            clear e1 q1
            refine wp_region_noPanic ?_
            refine wp_region_held_drew (S := (fun W : World => Bk W pA (x0.map B).toArray 22 ∧ Bk W pB (x1.map B).toArray 22 ∧ Bk W g1 (bl.map B).toArray 22 ∧ Bk W g6 ((sumOf bl).map B).toArray 35 ∧ Fr0 w18 W)) (by kernel_rfl) (⟨Fr.keep (Fr.drew (Fr.refl (fun _ => False) _)) HXA.out (fun h => h), Fr.keep (Fr.drew (Fr.refl (fun _ => False) _)) HXB.out (fun h => h), Fr.keep (Fr.drew (Fr.refl (fun _ => False) _)) HB.out (fun h => h), Fr.keep (Fr.drew (Fr.refl (fun _ => False) _)) HSM.out (fun h => h), Fr.drew (Fr.refl _ _)⟩) (fun hHeld0 => ?_)
            refine tk (i := 0) (v := .agg (x0.map B).toArray) rfl (yields_row (by kernel_rfl) 22 _ rfl (pA) rfl 22 (x0.map B).toArray (0, 0) _ (fun W h => (h).1) Tryd.underlying22 rfl (HZI.out _ HX0.out)) hHeld0 ?_
            simp only [Act.put, zA, zB, zC, zD, zE, zF]
            refine tk (i := 1) (v := .agg (bl.map B).toArray) rfl (yields_row (by kernel_rfl) 22 _ rfl (g1) rfl 22 (bl.map B).toArray (0, 0) _ (fun W h => (h).2.2.1) Tryd.underlying22 rfl (HZI.out _ HBN.out)) hHeld0 ?_
            simp only [Act.put, zA, zB, zC, zD, zE, zF]
            refine tk (i := 2) (v := .bool false) rfl (Or.inl ⟨by kernel_rfl, fun w hSw => DiskSame.run_neq_op rfl rfl rfl guard_b HEQ0.out w⟩) hHeld0 ?_
            simp only [Act.put, zA, zB, zC, zD, zE, zF]
            refine tk0 (i := 3) (v := .bool false) rfl hHeld0 ?_
            simp only [Act.put, zA, zB, zC, zD, zE, zF]
            refine tk (i := 4) (v := undef) rfl (Or.inr ⟨by kernel_rfl, rfl⟩) hHeld0 ?_
            simp only [Act.put, zA, zB, zC, zD, zE, zF]
            refine tk (i := 5) (v := undef) rfl (Or.inr ⟨by kernel_rfl, rfl⟩) hHeld0 ?_
            simp only [Act.put, zA, zB, zC, zD, zE, zF]
            refine tk (i := 6) (v := undef) rfl (Or.inr ⟨by kernel_rfl, rfl⟩) hHeld0 ?_
            simp only [Act.put, zA, zB, zC, zD, zE, zF]
            refine tk (i := 7) (v := undef) rfl (Or.inr ⟨by kernel_rfl, rfl⟩) hHeld0 ?_
            simp only [Act.put, zA, zB, zC, zD, zE, zF]
            refine tk0 (i := 8) (v := .bool false) rfl hHeld0 ?_
            simp only [Act.put, zA, zB, zC, zD, zE, zF]
            refine tk0 (i := 9) (v := .bool false) rfl hHeld0 ?_
            simp only [Act.put, zA, zB, zC, zD, zE, zF]
            refine tk (i := 10) (v := .agg (x1.map B).toArray) rfl (yields_row (by kernel_rfl) 22 _ rfl (pB) rfl 22 (x1.map B).toArray (0, 0) _ (fun W h => (h).2.1) Tryd.underlying22 rfl (HZI.out _ HX1.out)) hHeld0 ?_
            simp only [Act.put, zA, zB, zC, zD, zE, zF]
            refine tk (i := 11) (v := .agg (bl.map B).toArray) rfl (yields_row (by kernel_rfl) 22 _ rfl (g1) rfl 22 (bl.map B).toArray (0, 0) _ (fun W h => (h).2.2.1) Tryd.underlying22 rfl (HZI.out _ HBN.out)) hHeld0 ?_
            simp only [Act.put, zA, zB, zC, zD, zE, zF]
            refine tk (i := 12) (v := .bool true) rfl (Or.inl ⟨by kernel_rfl, fun w hSw => DiskSame.run_neq_op rfl rfl rfl guard_b HEQ1.out w⟩) hHeld0 ?_
            simp only [Act.put, zA, zB, zC, zD, zE, zF]
            refine tk0 (i := 13) (v := .bool true) rfl hHeld0 ?_
            simp only [Act.put, zA, zB, zC, zD, zE, zF]
            refine tk (i := 14) (v := .slice (some ⟨pB, 0, none⟩) 128 128) rfl (Or.inl ⟨by kernel_rfl, fun w hSw => by kernel_rfl⟩) hHeld0 ?_
            simp only [Act.put, zA, zB, zC, zD, zE, zF]
            refine tk (i := 16) (v := .agg ((sumOf bl).map B).toArray) rfl (yields_row (by kernel_rfl) 35 _ rfl (g6) rfl 35 ((sumOf bl).map B).toArray (0, 0) _ (fun W h => (h).2.2.2.1) Tryd.underlying35 rfl HSI.out) hHeld0 ?_
            simp only [Act.put, zA, zB, zC, zD, zE, zF]
            change wpAnyH _ _ _ _ _ 4 #[true, true, true, true, true, true, true, true, true, true, true, true, true, true, true, false, true, false, false, false] _ _
            refine wpAnyH_ready (rs := [15]) (by kernel_rfl) (by simp) ?_
            refine AllReadyH.cons rfl (fun K hK => ?_) AllReadyH.nil
            simp only [zA, zB, zC]
            refine (if_pos (by kernel_rfl)).mpr ?_
            go_wp2_with fail
            refine (HSU.out _ _ _ HX1.out (hHeld0).2.1).mono ?_
            rintro e wx0 ⟨rfl, hfx0⟩
            dsimp only
            refine hK.out _ _ (⟨Fr.keep hfx0 (hHeld0).1 (fun h => h), Fr.keep hfx0 (hHeld0).2.1 (fun h => h), Fr.keep hfx0 (hHeld0).2.2.1 (fun h => h), Fr.keep hfx0 (hHeld0).2.2.2.1 (fun h => h), ((hHeld0).2.2.2.2).then0 hfx0⟩) (fun hHeld1 => ?_)
            clear hK K hHeld0
            refine tk (i := 17) (v := .bool false) rfl (Or.inl ⟨by kernel_rfl, fun w hSw => run_eql_op rfl rfl rfl (by kernel_rfl) HES1.out w⟩) hHeld1 ?_
            simp only [Act.put, zA, zB, zC, zD, zE, zF]
            refine tk0 (i := 18) (v := .bool false) rfl hHeld1 ?_
            simp only [Act.put, zA, zB, zC, zD, zE, zF]
            refine tk0 (i := 19) (v := .bool false) rfl hHeld1 ?_
            simp only [Act.put, zA, zB, zC, zD, zE, zF]
            change wpAnyH _ _ _ _ _ 0 #[true, true, true, true, true, true, true, true, true, true, true, true, true, true, true, true, true, true, true, true] _ _
            refine wpAnyH_done (by kernel_rfl) ?_ _
            refine NoPanic.normal ?_
            have HEND := Lib.hid hHeld1
            clear hHeld1
            show K2 _ _
            exact HRESTB.out _ (fun h => absurd E0.out h) (fun _ => Q1.out) _ _ _ _ _ _ _ _ _ _ _ _ _ _ _ _ _ _ _ HEND.out
      · by_cases q0 : sumOf x0 = sumOf bl
        · rw [decide_eq_false e0] at HEQ0
          rw [decide_eq_true q0] at HES0
          clear e0 q0
          refine wp_region_noPanic ?_
          refine wp_region_held_drew (S := (fun W : World => Bk W pA (x0.map B).toArray 22 ∧ Bk W pB (x1.map B).toArray 22 ∧ Bk W g1 (bl.map B).toArray 22 ∧ Bk W g6 ((sumOf bl).map B).toArray 35 ∧ Fr0 w18 W)) (by kernel_rfl) (⟨Fr.keep (Fr.drew (Fr.refl (fun _ => False) _)) HXA.out (fun h => h), Fr.keep (Fr.drew (Fr.refl (fun _ => False) _)) HXB.out (fun h => h), Fr.keep (Fr.drew (Fr.refl (fun _ => False) _)) HB.out (fun h => h), Fr.keep (Fr.drew (Fr.refl (fun _ => False) _)) HSM.out (fun h => h), Fr.drew (Fr.refl _ _)⟩) (fun hHeld0 => ?_)
          refine tk (i := 0) (v := .agg (x0.map B).toArray) rfl (yields_row (by kernel_rfl) 22 _ rfl (pA) rfl 22 (x0.map B).toArray (0, 0) _ (fun W h => (h).1) Tryd.underlying22 rfl (HZI.out _ HX0.out)) hHeld0 ?_
          simp only [Act.put, zA, zB, zC, zD, zE, zF]
          refine tk (i := 1) (v := .agg (bl.map B).toArray) rfl (yields_row (by kernel_rfl) 22 _ rfl (g1) rfl 22 (bl.map B).toArray (0, 0) _ (fun W h => (h).2.2.1) Tryd.underlying22 rfl (HZI.out _ HBN.out)) hHeld0 ?_
          simp only [Act.put, zA, zB, zC, zD, zE, zF]
          refine tk (i := 2) (v := .bool true) rfl (Or.inl ⟨by kernel_rfl, fun w hSw => DiskSame.run_neq_op rfl rfl rfl guard_b HEQ0.out w⟩) hHeld0 ?_
          simp only [Act.put, zA, zB, zC, zD, zE, zF]
          refine tk0 (i := 3) (v := .bool true) rfl hHeld0 ?_
          simp only [Act.put, zA, zB, zC, zD, zE, zF]
          refine tk (i := 4) (v := .slice (some ⟨pA, 0, none⟩) 128 128) rfl (Or.inl ⟨by kernel_rfl, fun w hSw => by kernel_rfl⟩) hHeld0 ?_
          simp only [Act.put, zA, zB, zC, zD, zE, zF]
          refine tk (i := 6) (v := .agg ((sumOf bl).map B).toArray) rfl (yields_row (by kernel_rfl) 35 _ rfl (g6) rfl 35 ((sumOf bl).map B).toArray (0, 0) _ (fun W h => (h).2.2.2.1) Tryd.underlying35 rfl HSI.out) hHeld0 ?_
          simp only [Act.put, zA, zB, zC, zD, zE, zF]
          change wpAnyH _ _ _ _ _ 14 #[true, true, true, true, true, false, true, false, false, false, false, false, false, false, false, false, false, false, false, false] _ _
          refine wpAnyH_ready (rs := [5]) (by kernel_rfl) (by simp) ?_
          refine AllReadyH.cons rfl (fun K hK => ?_) AllReadyH.nil
          simp only [zA, zB, zC]
          refine (if_pos (by kernel_rfl)).mpr ?_
          go_wp2_with fail
          refine (HSU.out _ _ _ HX0.out (hHeld0).1).mono ?_
          rintro e wx0 ⟨rfl, hfx0⟩
          dsimp only
          refine hK.out _ _ (⟨Fr.keep hfx0 (hHeld0).1 (fun h => h), Fr.keep hfx0 (hHeld0).2.1 (fun h => h), Fr.keep hfx0 (hHeld0).2.2.1 (fun h => h), Fr.keep hfx0 (hHeld0).2.2.2.1 (fun h => h), ((hHeld0).2.2.2.2).then0 hfx0⟩) (fun hHeld1 => ?_)
          clear hK K hHeld0
          refine tk (i := 7) (v := .bool true) rfl (Or.inl ⟨by kernel_rfl, fun w hSw => run_eql_op rfl rfl rfl (by kernel_rfl) HES0.out w⟩) hHeld1 ?_
          simp only [Act.put, zA, zB, zC, zD, zE, zF]
          refine tk0 (i := 8) (v := .bool true) rfl hHeld1 ?_
          simp only [Act.put, zA, zB, zC, zD, zE, zF]
          refine tk0 (i := 9) (v := .bool true) rfl hHeld1 ?_
          simp only [Act.put, zA, zB, zC, zD, zE, zF]
          refine tk (i := 10) (v := undef) rfl (Or.inr ⟨by kernel_rfl, rfl⟩) hHeld1 ?_
          simp only [Act.put, zA, zB, zC, zD, zE, zF]
          refine tk (i := 11) (v := undef) rfl (Or.inr ⟨by kernel_rfl, rfl⟩) hHeld1 ?_
          simp only [Act.put, zA, zB, zC, zD, zE, zF]
          refine tk (i := 12) (v := undef) rfl (Or.inr ⟨by kernel_rfl, rfl⟩) hHeld1 ?_
          simp only [Act.put, zA, zB, zC, zD, zE, zF]
          refine tk (i := 13) (v := undef) rfl (Or.inr ⟨by kernel_rfl, rfl⟩) hHeld1 ?_
          simp only [Act.put, zA, zB, zC, zD, zE, zF]
          refine tk (i := 14) (v := undef) rfl (Or.inr ⟨by kernel_rfl, rfl⟩) hHeld1 ?_
          simp only [Act.put, zA, zB, zC, zD, zE, zF]
          refine tk (i := 15) (v := undef) rfl (Or.inr ⟨by kernel_rfl, rfl⟩) hHeld1 ?_
          simp only [Act.put, zA, zB, zC, zD, zE, zF]
          refine tk (i := 16) (v := undef) rfl (Or.inr ⟨by kernel_rfl, rfl⟩) hHeld1 ?_
          simp only [Act.put, zA, zB, zC, zD, zE, zF]
          refine tk (i := 17) (v := undef) rfl (Or.inr ⟨by kernel_rfl, rfl⟩) hHeld1 ?_
          simp only [Act.put, zA, zB, zC, zD, zE, zF]
          refine tk (i := 18) (v := undef) rfl (Or.inr ⟨by kernel_rfl, rfl⟩) hHeld1 ?_
          simp only [Act.put, zA, zB, zC, zD, zE, zF]
          refine tk0 (i := 19) (v := .bool true) rfl hHeld1 ?_
          simp only [Act.put, zA, zB, zC, zD, zE, zF]
          change wpAnyH _ _ _ _ _ 0 #[true, true, true, true, true, true, true, true, true, true, true, true, true, true, true, true, true, true, true, true] _ _
          refine wpAnyH_done (by kernel_rfl) ?_ _
          refine NoPanic.normal ?_
          have HEND := Lib.hid hHeld1
          clear hHeld1
          show K2 _ _
          exact HRESTC.out _ _ _ _ _ _ _ _ _ _ _ _ _ _ _ _ _ _ _ _ (HEND.out).2.2.2.2
        · rw [decide_eq_false e0] at HEQ0
          rw [decide_eq_false q0] at HES0
          have Q0 := Lib.hid q0
          clear e0 q0
          by_cases e1 : x1 = bl
          · rw [decide_eq_true e1] at HEQ1
            have E1 := Lib.hid e1
            clear e1
            refine wp_region_noPanic ?_
            refine wp_region_held_drew (S := (fun W : World => Bk W pA (x0.map B).toArray 22 ∧ Bk W pB (x1.map B).toArray 22 ∧ Bk W g1 (bl.map B).toArray 22 ∧ Bk W g6 ((sumOf bl).map B).toArray 35 ∧ Fr0 w18 W)) (by kernel_rfl) (⟨Fr.keep (Fr.drew (Fr.refl (fun _ => False) _)) HXA.out (fun h => h), Fr.keep (Fr.drew (Fr.refl (fun _ => False) _)) HXB.out (fun h => h), Fr.keep (Fr.drew (Fr.refl (fun _ => False) _)) HB.out (fun h => h), Fr.keep (Fr.drew (Fr.refl (fun _ => False) _)) HSM.out (fun h => h), Fr.drew (Fr.refl _ _)⟩) (fun hHeld0 => ?_)
            refine tk (i := 0) (v := .agg (x0.map B).toArray) rfl (yields_row (by kernel_rfl) 22 _ rfl (pA) rfl 22 (x0.map B).toArray (0, 0) _ (fun W h => (h).1) Tryd.underlying22 rfl (HZI.out _ HX0.out)) hHeld0 ?_
            simp only [Act.put, zA, zB, zC, zD, zE, zF]
            refine tk (i := 1) (v := .agg (bl.map B).toArray) rfl (yields_row (by kernel_rfl) 22 _ rfl (g1) rfl 22 (bl.map B).toArray (0, 0) _ (fun W h => (h).2.2.1) Tryd.underlying22 rfl (HZI.out _ HBN.out)) hHeld0 ?_
            simp only [Act.put, zA, zB, zC, zD, zE, zF]
            refine tk (i := 2) (v := .bool true) rfl (Or.inl ⟨by kernel_rfl, fun w hSw => DiskSame.run_neq_op rfl rfl rfl guard_b HEQ0.out w⟩) hHeld0 ?_
            simp only [Act.put, zA, zB, zC, zD, zE, zF]
            refine tk0 (i := 3) (v := .bool true) rfl hHeld0 ?_
            simp only [Act.put, zA, zB, zC, zD, zE, zF]
            refine tk (i := 4) (v := .slice (some ⟨pA, 0, none⟩) 128 128) rfl (Or.inl ⟨by kernel_rfl, fun w hSw => by kernel_rfl⟩) hHeld0 ?_
            simp only [Act.put, zA, zB, zC, zD, zE, zF]
            refine tk (i := 6) (v := .agg ((sumOf bl).map B).toArray) rfl (yields_row (by kernel_rfl) 35 _ rfl (g6) rfl 35 ((sumOf bl).map B).toArray (0, 0) _ (fun W h => (h).2.2.2.1) Tryd.underlying35 rfl HSI.out) hHeld0 ?_
            simp only [Act.put, zA, zB, zC, zD, zE, zF]
            change wpAnyH _ _ _ _ _ 14 #[true, true, true, true, true, false, true, false, false, false, false, false, false, false, false, false, false, false, false, false] _ _
            refine wpAnyH_ready (rs := [5]) (by kernel_rfl) (by simp) ?_
            refine AllReadyH.cons rfl (fun K hK => ?_) AllReadyH.nil
            simp only [zA, zB, zC]
            refine (if_pos (by kernel_rfl)).mpr ?_
            go_wp2_with fail
            refine (HSU.out _ _ _ HX0.out (hHeld0).1).mono ?_
            rintro e wx0 ⟨rfl, hfx0⟩
            dsimp only
            refine hK.out _ _ (⟨Fr.keep hfx0 (hHeld0).1 (fun h => h), Fr.keep hfx0 (hHeld0).2.1 (fun h => h), Fr.keep hfx0 (hHeld0).2.2.1 (fun h => h), Fr.keep hfx0 (hHeld0).2.2.2.1 (fun h => h), ((hHeld0).2.2.2.2).then0 hfx0⟩) (fun hHeld1 => ?_)
            clear hK K hHeld0
            refine tk (i := 7) (v := .bool false) rfl (Or.inl ⟨by kernel_rfl, fun w hSw => run_eql_op rfl rfl rfl (by kernel_rfl) HES0.out w⟩) hHeld1 ?_
            simp only [Act.put, zA, zB, zC, zD, zE, zF]
            refine tk0 (i := 8) (v := .bool false) rfl hHeld1 ?_
            simp only [Act.put, zA, zB, zC, zD, zE, zF]
            refine tk0 (i := 9) (v := .bool false) rfl hHeld1 ?_
            simp only [Act.put, zA, zB, zC, zD, zE, zF]
            refine tk (i := 10) (v := .agg (x1.map B).toArray) rfl (yields_row (by kernel_rfl) 22 _ rfl (pB) rfl 22 (x1.map B).toArray (0, 0) _ (fun W h => (h).2.1) Tryd.underlying22 rfl (HZI.out _ HX1.out)) hHeld1 ?_
            simp only [Act.put, zA, zB, zC, zD, zE, zF]
            refine tk (i := 11) (v := .agg (bl.map B).toArray) rfl (yields_row (by kernel_rfl) 22 _ rfl (g1) rfl 22 (bl.map B).toArray (0, 0) _ (fun W h => (h).2.2.1) Tryd.underlying22 rfl (HZI.out _ HBN.out)) hHeld1 ?_
            simp only [Act.put, zA, zB, zC, zD, zE, zF]
            refine tk (i := 12) (v := .bool false) rfl (Or.inl ⟨by kernel_rfl, fun w hSw => DiskSame.run_neq_op rfl rfl rfl guard_b HEQ1.out w⟩) hHeld1 ?_
            simp only [Act.put, zA, zB, zC, zD, zE, zF]
            refine tk0 (i := 13) (v := .bool false) rfl hHeld1 ?_
            simp only [Act.put, zA, zB, zC, zD, zE, zF]
            refine tk (i := 14) (v := undef) rfl (Or.inr ⟨by kernel_rfl, rfl⟩) hHeld1 ?_
            simp only [Act.put, zA, zB, zC, zD, zE, zF]
            refine tk (i := 15) (v := undef) rfl (Or.inr ⟨by kernel_rfl, rfl⟩) hHeld1 ?_
            simp only [Act.put, zA, zB, zC, zD, zE, zF]
            refine tk (i := 16) (v := undef) rfl (Or.inr ⟨by kernel_rfl, rfl⟩) hHeld1 ?_
            simp only [Act.put, zA, zB, zC, zD, zE, zF]
            refine tk (i := 17) (v := undef) rfl (Or.inr ⟨by kernel_rfl, rfl⟩) hHeld1 ?_
            simp only [Act.put, zA, zB, zC, zD, zE, zF]
            refine tk0 (i := 18) (v := .bool false) rfl hHeld1 ?_
            simp only [Act.put, zA, zB, zC, zD, zE, zF]
            refine tk0 (i := 19) (v := .bool false) rfl hHeld1 ?_
            simp only [Act.put, zA, zB, zC, zD, zE, zF]
            change wpAnyH _ _ _ _ _ 0 #[true, true, true, true, true, true, true, true, true, true, true, true, true, true, true, true, true, true, true, true] _ _
            refine wpAnyH_done (by kernel_rfl) ?_ _
            refine NoPanic.normal ?_
            have HEND := Lib.hid hHeld1
            clear hHeld1
            show K2 _ _
            exact HRESTB.out _ (fun _ => Q0.out) (fun h => absurd E1.out h) _ _ _ _ _ _ _ _ _ _ _ _ _ _ _ _ _ _ _ HEND.out
          · by_cases q1 : sumOf x1 = sumOf bl
            · rw [decide_eq_false e1] at HEQ1
              rw [decide_eq_true q1] at HES1
              clear e1 q1
              refine wp_region_noPanic ?_
              refine wp_region_held_drew (S := (fun W : World => Bk W pA (x0.map B).toArray 22 ∧ Bk W pB (x1.map B).toArray 22 ∧ Bk W g1 (bl.map B).toArray 22 ∧ Bk W g6 ((sumOf bl).map B).toArray 35 ∧ Fr0 w18 W)) (by kernel_rfl) (⟨Fr.keep (Fr.drew (Fr.refl (fun _ => False) _)) HXA.out (fun h => h), Fr.keep (Fr.drew (Fr.refl (fun _ => False) _)) HXB.out (fun h => h), Fr.keep (Fr.drew (Fr.refl (fun _ => False) _)) HB.out (fun h => h), Fr.keep (Fr.drew (Fr.refl (fun _ => False) _)) HSM.out (fun h => h), Fr.drew (Fr.refl _ _)⟩) (fun hHeld0 => ?_)
              refine tk (i := 0) (v := .agg (x0.map B).toArray) rfl (yields_row (by kernel_rfl) 22 _ rfl (pA) rfl 22 (x0.map B).toArray (0, 0) _ (fun W h => (h).1) Tryd.underlying22 rfl (HZI.out _ HX0.out)) hHeld0 ?_
              simp only [Act.put, zA, zB, zC, zD, zE, zF]
              refine tk (i := 1) (v := .agg (bl.map B).toArray) rfl (yields_row (by kernel_rfl) 22 _ rfl (g1) rfl 22 (bl.map B).toArray (0, 0) _ (fun W h => (h).2.2.1) Tryd.underlying22 rfl (HZI.out _ HBN.out)) hHeld0 ?_
              simp only [Act.put, zA, zB, zC, zD, zE, zF]
              refine tk (i := 2) (v := .bool true) rfl (Or.inl ⟨by kernel_rfl, fun w hSw => DiskSame.run_neq_op rfl rfl rfl guard_b HEQ0.out w⟩) hHeld0 ?_
              simp only [Act.put, zA, zB, zC, zD, zE, zF]
              refine tk0 (i := 3) (v := .bool true) rfl hHeld0 ?_
              simp only [Act.put, zA, zB, zC, zD, zE, zF]
              refine tk (i := 4) (v := .slice (some ⟨pA, 0, none⟩) 128 128) rfl (Or.inl ⟨by kernel_rfl, fun w hSw => by kernel_rfl⟩) hHeld0 ?_
              simp only [Act.put, zA, zB, zC, zD, zE, zF]
              refine tk (i := 6) (v := .agg ((sumOf bl).map B).toArray) rfl (yields_row (by kernel_rfl) 35 _ rfl (g6) rfl 35 ((sumOf bl).map B).toArray (0, 0) _ (fun W h => (h).2.2.2.1) Tryd.underlying35 rfl HSI.out) hHeld0 ?_
              simp only [Act.put, zA, zB, zC, zD, zE, zF]
              change wpAnyH _ _ _ _ _ 14 #[true, true, true, true, true, false, true, false, false, false, false, false, false, false, false, false, false, false, false, false] _ _
              refine wpAnyH_ready (rs := [5]) (by kernel_rfl) (by simp) ?_
              refine AllReadyH.cons rfl (fun K hK => ?_) AllReadyH.nil
              simp only [zA, zB, zC]
              refine (if_pos (by kernel_rfl)).mpr ?_
              go_wp2_with fail
              refine (HSU.out _ _ _ HX0.out (hHeld0).1).mono ?_
              rintro e wx0 ⟨rfl, hfx0⟩
              dsimp only
              refine hK.out _ _ (⟨Fr.keep hfx0 (hHeld0).1 (fun h => h), Fr.keep hfx0 (hHeld0).2.1 (fun h => h), Fr.keep hfx0 (hHeld0).2.2.1 (fun h => h), Fr.keep hfx0 (hHeld0).2.2.2.1 (fun h => h), ((hHeld0).2.2.2.2).then0 hfx0⟩) (fun hHeld1 => ?_)
              clear hK K hHeld0
              refine tk (i := 7) (v := .bool false) rfl (Or.inl ⟨by kernel_rfl, fun w hSw => run_eql_op rfl rfl rfl (by kernel_rfl) HES0.out w⟩) hHeld1 ?_
              simp only [Act.put, zA, zB, zC, zD, zE, zF]
              refine tk0 (i := 8) (v := .bool false) rfl hHeld1 ?_
              simp only [Act.put, zA, zB, zC, zD, zE, zF]
              refine tk0 (i := 9) (v := .bool false) rfl hHeld1 ?_
              simp only [Act.put, zA, zB, zC, zD, zE, zF]
              refine tk (i := 10) (v := .agg (x1.map B).toArray) rfl (yields_row (by kernel_rfl) 22 _ rfl (pB) rfl 22 (x1.map B).toArray (0, 0) _ (fun W h => (h).2.1) Tryd.underlying22 rfl (HZI.out _ HX1.out)) hHeld1 ?_
              simp only [Act.put, zA, zB, zC, zD, zE, zF]
              refine tk (i := 11) (v := .agg (bl.map B).toArray) rfl (yields_row (by kernel_rfl) 22 _ rfl (g1) rfl 22 (bl.map B).toArray (0, 0) _ (fun W h => (h).2.2.1) Tryd.underlying22 rfl (HZI.out _ HBN.out)) hHeld1 ?_
              simp only [Act.put, zA, zB, zC, zD, zE, zF]
              refine tk (i := 12) (v := .bool true) rfl (Or.inl ⟨by kernel_rfl, fun w hSw => DiskSame.run_neq_op rfl rfl rfl guard_b HEQ1.out w⟩) hHeld1 ?_
              simp only [Act.put, zA, zB, zC, zD, zE, zF]
              refine tk0 (i := 13) (v := .bool true) rfl hHeld1 ?_
              simp only [Act.put, zA, zB, zC, zD, zE, zF]
              refine tk (i := 14) (v := .slice (some ⟨pB, 0, none⟩) 128 128) rfl (Or.inl ⟨by kernel_rfl, fun w hSw => by kernel_rfl⟩) hHeld1 ?_
              simp only [Act.put, zA, zB, zC, zD, zE, zF]
              refine tk (i := 16) (v := .agg ((sumOf bl).map B).toArray) rfl (yields_row (by kernel_rfl) 35 _ rfl (g6) rfl 35 ((sumOf bl).map B).toArray (0, 0) _ (fun W h => (h).2.2.2.1) Tryd.underlying35 rfl HSI.out) hHeld1 ?_
              simp only [Act.put, zA, zB, zC, zD, zE, zF]
              change wpAnyH _ _ _ _ _ 4 #[true, true, true, true, true, true, true, true, true, true, true, true, true, true, true, false, true, false, false, false] _ _
              refine wpAnyH_ready (rs := [15]) (by kernel_rfl) (by simp) ?_
              refine AllReadyH.cons rfl (fun K hK => ?_) AllReadyH.nil
              simp only [zA, zB, zC]
              refine (if_pos (by kernel_rfl)).mpr ?_
              go_wp2_with fail
              refine (HSU.out _ _ _ HX1.out (hHeld1).2.1).mono ?_
              rintro e wx1 ⟨rfl, hfx1⟩
              dsimp only
              refine hK.out _ _ (⟨Fr.keep hfx1 (hHeld1).1 (fun h => h), Fr.keep hfx1 (hHeld1).2.1 (fun h => h), Fr.keep hfx1 (hHeld1).2.2.1 (fun h => h), Fr.keep hfx1 (hHeld1).2.2.2.1 (fun h => h), ((hHeld1).2.2.2.2).then0 hfx1⟩) (fun hHeld2 => ?_)
              clear hK K hHeld1
              refine tk (i := 17) (v := .bool true) rfl (Or.inl ⟨by kernel_rfl, fun w hSw => run_eql_op rfl rfl rfl (by kernel_rfl) HES1.out w⟩) hHeld2 ?_
              simp only [Act.put, zA, zB, zC, zD, zE, zF]
              refine tk0 (i := 18) (v := .bool true) rfl hHeld2 ?_
              simp only [Act.put, zA, zB, zC, zD, zE, zF]
              refine tk0 (i := 19) (v := .bool true) rfl hHeld2 ?_
              simp only [Act.put, zA, zB, zC, zD, zE, zF]
              change wpAnyH _ _ _ _ _ 0 #[true, true, true, true, true, true, true, true, true, true, true, true, true, true, true, true, true, true, true, true] _ _
              refine wpAnyH_done (by kernel_rfl) ?_ _
              refine NoPanic.normal ?_
              have HEND := Lib.hid hHeld2
              clear hHeld2
              show K2 _ _
              exact HRESTC.out _ _ _ _ _ _ _ _ _ _ _ _ _ _ _ _ _ _ _ _ (HEND.out).2.2.2.2
            · rw [decide_eq_false e1] at HEQ1
              rw [decide_eq_false q1] at HES1
              have Q1 := Lib.hid q1
              clear e1 q1
              refine wp_region_noPanic ?_
              refine wp_region_held_drew (S := (fun W : World => Bk W pA (x0.map B).toArray 22 ∧ Bk W pB (x1.map B).toArray 22 ∧ Bk W g1 (bl.map B).toArray 22 ∧ Bk W g6 ((sumOf bl).map B).toArray 35 ∧ Fr0 w18 W)) (by kernel_rfl) (⟨Fr.keep (Fr.drew (Fr.refl (fun _ => False) _)) HXA.out (fun h => h), Fr.keep (Fr.drew (Fr.refl (fun _ => False) _)) HXB.out (fun h => h), Fr.keep (Fr.drew (Fr.refl (fun _ => False) _)) HB.out (fun h => h), Fr.keep (Fr.drew (Fr.refl (fun _ => False) _)) HSM.out (fun h => h), Fr.drew (Fr.refl _ _)⟩) (fun hHeld0 => ?_)
              refine tk (i := 0) (v := .agg (x0.map B).toArray) rfl (yields_row (by kernel_rfl) 22 _ rfl (pA) rfl 22 (x0.map B).toArray (0, 0) _ (fun W h => (h).1) Tryd.underlying22 rfl (HZI.out _ HX0.out)) hHeld0 ?_
              simp only [Act.put, zA, zB, zC, zD, zE, zF]
              refine tk (i := 1) (v := .agg (bl.map B).toArray) rfl (yields_row (by kernel_rfl) 22 _ rfl (g1) rfl 22 (bl.map B).toArray (0, 0) _ (fun W h => (h).2.2.1) Tryd.underlying22 rfl (HZI.out _ HBN.out)) hHeld0 ?_
              simp only [Act.put, zA, zB, zC, zD, zE, zF]
              refine tk (i := 2) (v := .bool true) rfl (Or.inl ⟨by kernel_rfl, fun w hSw => DiskSame.run_neq_op rfl rfl rfl guard_b HEQ0.out w⟩) hHeld0 ?_
              simp only [Act.put, zA, zB, zC, zD, zE, zF]
              refine tk0 (i := 3) (v := .bool true) rfl hHeld0 ?_
              simp only [Act.put, zA, zB, zC, zD, zE, zF]
              refine tk (i := 4) (v := .slice (some ⟨pA, 0, none⟩) 128 128) rfl (Or.inl ⟨by kernel_rfl, fun w hSw => by kernel_rfl⟩) hHeld0 ?_
              simp only [Act.put, zA, zB, zC, zD, zE, zF]
              refine tk (i := 6) (v := .agg ((sumOf bl).map B).toArray) rfl (yields_row (by kernel_rfl) 35 _ rfl (g6) rfl 35 ((sumOf bl).map B).toArray (0, 0) _ (fun W h => (h).2.2.2.1) Tryd.underlying35 rfl HSI.out) hHeld0 ?_
              simp only [Act.put, zA, zB, zC, zD, zE, zF]
              change wpAnyH _ _ _ _ _ 14 #[true, true, true, true, true, false, true, false, false, false, false, false, false, false, false, false, false, false, false, false] _ _
              refine wpAnyH_ready (rs := [5]) (by kernel_rfl) (by simp) ?_
              refine AllReadyH.cons rfl (fun K hK => ?_) AllReadyH.nil
              simp only [zA, zB, zC]
              refine (if_pos (by kernel_rfl)).mpr ?_
              go_wp2_with fail
              refine (HSU.out _ _ _ HX0.out (hHeld0).1).mono ?_
              rintro e wx0 ⟨rfl, hfx0⟩
              dsimp only
              refine hK.out _ _ (⟨Fr.keep hfx0 (hHeld0).1 (fun h => h), Fr.keep hfx0 (hHeld0).2.1 (fun h => h), Fr.keep hfx0 (hHeld0).2.2.1 (fun h => h), Fr.keep hfx0 (hHeld0).2.2.2.1 (fun h => h), ((hHeld0).2.2.2.2).then0 hfx0⟩) (fun hHeld1 => ?_)
              clear hK K hHeld0
              refine tk (i := 7) (v := .bool false) rfl (Or.inl ⟨by kernel_rfl, fun w hSw => run_eql_op rfl rfl rfl (by kernel_rfl) HES0.out w⟩) hHeld1 ?_
              simp only [Act.put, zA, zB, zC, zD, zE, zF]
              refine tk0 (i := 8) (v := .bool false) rfl hHeld1 ?_
              simp only [Act.put, zA, zB, zC, zD, zE, zF]
              refine tk0 (i := 9) (v := .bool false) rfl hHeld1 ?_
              simp only [Act.put, zA, zB, zC, zD, zE, zF]
              refine tk (i := 10) (v := .agg (x1.map B).toArray) rfl (yields_row (by kernel_rfl) 22 _ rfl (pB) rfl 22 (x1.map B).toArray (0, 0) _ (fun W h => (h).2.1) Tryd.underlying22 rfl (HZI.out _ HX1.out)) hHeld1 ?_
              simp only [Act.put, zA, zB, zC, zD, zE, zF]
              refine tk (i := 11) (v := .agg (bl.map B).toArray) rfl (yields_row (by kernel_rfl) 22 _ rfl (g1) rfl 22 (bl.map B).toArray (0, 0) _ (fun W h => (h).2.2.1) Tryd.underlying22 rfl (HZI.out _ HBN.out)) hHeld1 ?_
              simp only [Act.put, zA, zB, zC, zD, zE, zF]
              refine tk (i := 12) (v := .bool true) rfl (Or.inl ⟨by kernel_rfl, fun w hSw => DiskSame.run_neq_op rfl rfl rfl guard_b HEQ1.out w⟩) hHeld1 ?_
              simp only [Act.put, zA, zB, zC, zD, zE, zF]
              refine tk0 (i := 13) (v := .bool true) rfl hHeld1 ?_
              simp only [Act.put, zA, zB, zC, zD, zE, zF]
              refine tk (i := 14) (v := .slice (some ⟨pB, 0, none⟩) 128 128) rfl (Or.inl ⟨by kernel_rfl, fun w hSw => by kernel_rfl⟩) hHeld1 ?_
              simp only [Act.put, zA, zB, zC, zD, zE, zF]
              refine tk (i := 16) (v := .agg ((sumOf bl).map B).toArray) rfl (yields_row (by kernel_rfl) 35 _ rfl (g6) rfl 35 ((sumOf bl).map B).toArray (0, 0) _ (fun W h => (h).2.2.2.1) Tryd.underlying35 rfl HSI.out) hHeld1 ?_
              simp only [Act.put, zA, zB, zC, zD, zE, zF]
              change wpAnyH _ _ _ _ _ 4 #[true, true, true, true, true, true, true, true, true, true, true, true, true, true, true, false, true, false, false, false] _ _
              refine wpAnyH_ready (rs := [15]) (by kernel_rfl) (by simp) ?_
              refine AllReadyH.cons rfl (fun K hK => ?_) AllReadyH.nil
              simp only [zA, zB, zC]
              refine (if_pos (by kernel_rfl)).mpr ?_
              go_wp2_with fail
              refine (HSU.out _ _ _ HX1.out (hHeld1).2.1).mono ?_
              rintro e wx1 ⟨rfl, hfx1⟩
              dsimp only
              refine hK.out _ _ (⟨Fr.keep hfx1 (hHeld1).1 (fun h => h), Fr.keep hfx1 (hHeld1).2.1 (fun h => h), Fr.keep hfx1 (hHeld1).2.2.1 (fun h => h), Fr.keep hfx1 (hHeld1).2.2.2.1 (fun h => h), ((hHeld1).2.2.2.2).then0 hfx1⟩) (fun hHeld2 => ?_)
              clear hK K hHeld1
              refine tk (i := 17) (v := .bool false) rfl (Or.inl ⟨by kernel_rfl, fun w hSw => run_eql_op rfl rfl rfl (by kernel_rfl) HES1.out w⟩) hHeld2 ?_
              simp only [Act.put, zA, zB, zC, zD, zE, zF]
              refine tk0 (i := 18) (v := .bool false) rfl hHeld2 ?_
              simp only [Act.put, zA, zB, zC, zD, zE, zF]
              refine tk0 (i := 19) (v := .bool false) rfl hHeld2 ?_
              simp only [Act.put, zA, zB, zC, zD, zE, zF]
              change wpAnyH _ _ _ _ _ 0 #[true, true, true, true, true, true, true, true, true, true, true, true, true, true, true, true, true, true, true, true] _ _
              refine wpAnyH_done (by kernel_rfl) ?_ _
              refine NoPanic.normal ?_
              have HEND := Lib.hid hHeld2
              clear hHeld2
              show K2 _ _
              exact HRESTB.out _ (fun _ => Q0.out) (fun _ => Q1.out) _ _ _ _ _ _ _ _ _ _ _ _ _ _ _ _ _ _ _ HEND.out
    )
  clear hKA
  refine wp_region_noPanic ?_
  refine wp_region_held_drew (S := (fun W : World => Fr0 w14 W)) (by kernel_rfl) (Fr.drew (Fr.refl _ _)) (fun hHeld0 => ?_)
  generalize w14.drew = wd at *
  refine tk0 (i := 0) (v := .pointer (some ⟨g3, 0, none⟩)) rfl hHeld0 ?_
  simp only [Act.put, zA, zB, zC, zD, zE, zF]
  refine tk (i := 1) (v := .slice (some ⟨sb, so, none⟩) 60 sc2) rfl (Or.inl ⟨by kernel_rfl, fun w hSw => by have hcl := (fun W h => (Fr.cell h g3 0 (PS.wlt HP.out).1 (fun h => h)).trans HC0.out) w hSw; go_simp⟩) hHeld0 ?_
  simp only [Act.put, zA, zB, zC, zD, zE, zF]
  refine tk (i := 2) (v := .pointer (some ⟨sb, so + 390, none⟩)) rfl (Or.inl ⟨by kernel_rfl, fun w hSw => by go_simp⟩) hHeld0 ?_
  simp only [Act.put, zA, zB, zC, zD, zE, zF]
  refine tk0 (i := 3) (v := .pointer (some ⟨sb, so + 390, none⟩)) rfl hHeld0 ?_
  simp only [Act.put, zA, zB, zC, zD, zE, zF]
  refine tk (i := 4) (v := .agg (x0.map B).toArray) rfl (yieldsIf_load_mid (by kernel_rfl) 22 _ rfl sb (so + 390) rfl (x0.map B) _ (fun W h => rng_keep h HR0.out) Tryd.underlying22 rfl (HLI.out _ HX0.out)) hHeld0 ?_
  simp only [Act.put, zA, zB, zC, zD, zE, zF]
  refine tk0 (i := 5) (v := .pointer (some ⟨g3, 0, none⟩)) rfl hHeld0 ?_
  simp only [Act.put, zA, zB, zC, zD, zE, zF]
  refine tk (i := 6) (v := .slice (some ⟨sb, so, none⟩) 60 sc2) rfl (Or.inl ⟨by kernel_rfl, fun w hSw => by have hcl := (fun W h => (Fr.cell h g3 0 (PS.wlt HP.out).1 (fun h => h)).trans HC0.out) w hSw; go_simp⟩) hHeld0 ?_
  simp only [Act.put, zA, zB, zC, zD, zE, zF]
  refine tk (i := 7) (v := .pointer (some ⟨sb, so + 3250, none⟩)) rfl (Or.inl ⟨by kernel_rfl, fun w hSw => by go_simp⟩) hHeld0 ?_
  simp only [Act.put, zA, zB, zC, zD, zE, zF]
  refine tk0 (i := 8) (v := .pointer (some ⟨sb, so + 3250, none⟩)) rfl hHeld0 ?_
  simp only [Act.put, zA, zB, zC, zD, zE, zF]
  refine tk (i := 9) (v := .agg (x1.map B).toArray) rfl (yieldsIf_load_mid (by kernel_rfl) 22 _ rfl sb (so + 3250) rfl (x1.map B) _ (fun W h => rng_keep h HR1.out) Tryd.underlying22 rfl (HLI.out _ HX1.out)) hHeld0 ?_
  simp only [Act.put, zA, zB, zC, zD, zE, zF]
  change wpAnyH _ _ _ _ _ 4 #[true, true, true, true, true, true, true, true, true, true, false, false, false, false] _ _
  refine wpAnyH_ready (rs := [10, 11]) (by kernel_rfl) (by simp) ?_
  refine AllReadyH.cons rfl (fun K hK => ?_) (AllReadyH.cons rfl (fun K hK => ?_) (AllReadyH.nil))
  · simp only [zA, zB, zC]
    refine (if_pos (by kernel_rfl)).mpr ?_
    go_wp2_with fail
    have hfx0 : Fr0 wd (wd.alloc (.cells ZB 22)) := Fr.alloc (Fr.refl _ _) _
    have HLO0 : Hid (w14.heap.size ≤ wd.heap.size) := Lib.hid (Fr.size hHeld0)
    have HZ0 : Hid (Bk (wd.alloc (.cells ZB 22)) wd.heap.size ZB 22) := Lib.hid (Bk.new wd _)
    refine hK.out _ _ (hHeld0.then0 hfx0) (fun hHeld1 => ?_)
    clear hK K hHeld0
    clear hfx0
    generalize wd.heap.size = pA at *
    generalize (wd.alloc (.cells ZB 22)) = wx0 at *
    change wpAnyH _ _ _ _ _ 3 #[true, true, true, true, true, true, true, true, true, true, true, false, false, false] _ _
    refine wpAnyH_ready (rs := [11]) (by kernel_rfl) (by simp) ?_
    refine AllReadyH.cons rfl (fun K hK => ?_) AllReadyH.nil
    simp only [zA, zB, zC]
    refine (if_pos (by kernel_rfl)).mpr ?_
    go_wp2_with fail
    have hfx1 : Fr0 wx0 (wx0.alloc (.cells ZB 22)) := Fr.alloc (Fr.refl _ _) _
    have HLO1 : Hid (w14.heap.size ≤ wx0.heap.size) := Lib.hid (Fr.size hHeld1)
    have HPQ : Hid (pA ≠ wx0.heap.size) := Lib.hid (by have h1 := Bk.lt HZ0.out; omega)
    replace HZ0 := Lib.hid (Fr.keep hfx1 HZ0.out (fun h => h))
    have HZ1 : Hid (Bk (wx0.alloc (.cells ZB 22)) wx0.heap.size ZB 22) := Lib.hid (Bk.new wx0 _)
    refine hK.out _ _ (hHeld1.then0 hfx1) (fun hHeld2 => ?_)
    clear hK K hHeld1
    clear hfx1
    generalize wx0.heap.size = pB at *
    generalize (wx0.alloc (.cells ZB 22)) = wx1 at *
    change wpAnyH _ _ _ _ _ 2 #[true, true, true, true, true, true, true, true, true, true, true, true, false, false] _ _
    refine wpAnyH_ready (rs := [12]) (by kernel_rfl) (by simp) ?_
    refine AllReadyH.cons rfl (fun K hK => ?_) AllReadyH.nil
    simp only [zA, zB, zC]
    refine (if_pos (by kernel_rfl)).mpr ?_
    refine wp_store_row 22 _ _ rfl pA (x0.map B).toArray rfl rfl 22 ZB HZ0.out (HZI.out _ HX0.out) (HZS.out _ HX0.out) (HZO.out _) ?_
    replace HZ1 := Lib.hid (show (wx1.setRow pA (x0.map B).toArray).heap[pB]? = _ from ArrKit.Bk.rowOther HZ1.out _ (HPQ.out.symm))
    replace HZ0 : Hid (Bk (wx1.setRow pA (x0.map B).toArray) pA (x0.map B).toArray 22) := Lib.hid (ArrKit.Bk.row HZ0.out _)
    refine hK.out _ _ (ArrKit.Fr.row hHeld2 _ _ (.inl HLO0.out)) (fun hHeld3 => ?_)
    clear hK K hHeld2
    generalize (wx1.setRow pA (x0.map B).toArray) = wx2 at *
    change wpAnyH _ _ _ _ _ 1 #[true, true, true, true, true, true, true, true, true, true, true, true, true, false] _ _
    refine wpAnyH_ready (rs := [13]) (by kernel_rfl) (by simp) ?_
    refine AllReadyH.cons rfl (fun K hK => ?_) AllReadyH.nil
    simp only [zA, zB, zC]
    refine (if_pos (by kernel_rfl)).mpr ?_
    refine wp_store_row 22 _ _ rfl pB (x1.map B).toArray rfl rfl 22 ZB HZ1.out (HZI.out _ HX1.out) (HZS.out _ HX1.out) (HZO.out _) ?_
    replace HZ0 := Lib.hid (show (wx2.setRow pB (x1.map B).toArray).heap[pA]? = _ from ArrKit.Bk.rowOther HZ0.out _ (HPQ.out))
    replace HZ1 : Hid (Bk (wx2.setRow pB (x1.map B).toArray) pB (x1.map B).toArray 22) := Lib.hid (ArrKit.Bk.row HZ1.out _)
    refine hK.out _ _ (ArrKit.Fr.row hHeld3 _ _ (.inl HLO1.out)) (fun hHeld4 => ?_)
    clear hK K hHeld3
    generalize (wx2.setRow pB (x1.map B).toArray) = wx3 at *
    change wpAnyH _ _ _ _ _ 0 #[true, true, true, true, true, true, true, true, true, true, true, true, true, true] _ _
    refine wpAnyH_done (by kernel_rfl) ?_ _
    refine NoPanic.normal ?_
    have HEND := Lib.hid hHeld4
    clear hHeld4
    exact HRESTA.out wx3 pA pB HEND.out HZ0.out HZ1.out HPQ.out HLO0.out HLO1.out
  · simp only [zA, zB, zC]
    refine (if_pos (by kernel_rfl)).mpr ?_
    go_wp2_with fail
    have hfx0 : Fr0 wd (wd.alloc (.cells ZB 22)) := Fr.alloc (Fr.refl _ _) _
    have HLO1 : Hid (w14.heap.size ≤ wd.heap.size) := Lib.hid (Fr.size hHeld0)
    have HZ1 : Hid (Bk (wd.alloc (.cells ZB 22)) wd.heap.size ZB 22) := Lib.hid (Bk.new wd _)
    refine hK.out _ _ (hHeld0.then0 hfx0) (fun hHeld1 => ?_)
    clear hK K hHeld0
    clear hfx0
    generalize wd.heap.size = pB at *
    generalize (wd.alloc (.cells ZB 22)) = wx0 at *
    change wpAnyH _ _ _ _ _ 3 #[true, true, true, true, true, true, true, true, true, true, false, true, false, false] _ _
    refine wpAnyH_ready (rs := [10]) (by kernel_rfl) (by simp) ?_
    refine AllReadyH.cons rfl (fun K hK => ?_) AllReadyH.nil
    simp only [zA, zB, zC]
    refine (if_pos (by kernel_rfl)).mpr ?_
    go_wp2_with fail
    have hfx1 : Fr0 wx0 (wx0.alloc (.cells ZB 22)) := Fr.alloc (Fr.refl _ _) _
    have HLO0 : Hid (w14.heap.size ≤ wx0.heap.size) := Lib.hid (Fr.size hHeld1)
    have HPQ : Hid (wx0.heap.size ≠ pB) := Lib.hid (by have h1 := Bk.lt HZ1.out; omega)
    replace HZ1 := Lib.hid (Fr.keep hfx1 HZ1.out (fun h => h))
    have HZ0 : Hid (Bk (wx0.alloc (.cells ZB 22)) wx0.heap.size ZB 22) := Lib.hid (Bk.new wx0 _)
    refine hK.out _ _ (hHeld1.then0 hfx1) (fun hHeld2 => ?_)
    clear hK K hHeld1
    clear hfx1
    generalize wx0.heap.size = pA at *
    generalize (wx0.alloc (.cells ZB 22)) = wx1 at *
    change wpAnyH _ _ _ _ _ 2 #[true, true, true, true, true, true, true, true, true, true, true, true, false, false] _ _
    refine wpAnyH_ready (rs := [12]) (by kernel_rfl) (by simp) ?_
    refine AllReadyH.cons rfl (fun K hK => ?_) AllReadyH.nil
    simp only [zA, zB, zC]
    refine (if_pos (by kernel_rfl)).mpr ?_
    refine wp_store_row 22 _ _ rfl pA (x0.map B).toArray rfl rfl 22 ZB HZ0.out (HZI.out _ HX0.out) (HZS.out _ HX0.out) (HZO.out _) ?_
    replace HZ1 := Lib.hid (show (wx1.setRow pA (x0.map B).toArray).heap[pB]? = _ from ArrKit.Bk.rowOther HZ1.out _ (HPQ.out.symm))
    replace HZ0 : Hid (Bk (wx1.setRow pA (x0.map B).toArray) pA (x0.map B).toArray 22) := Lib.hid (ArrKit.Bk.row HZ0.out _)
    refine hK.out _ _ (ArrKit.Fr.row hHeld2 _ _ (.inl HLO0.out)) (fun hHeld3 => ?_)
    clear hK K hHeld2
    generalize (wx1.setRow pA (x0.map B).toArray) = wx2 at *
    change wpAnyH _ _ _ _ _ 1 #[true, true, true, true, true, true, true, true, true, true, true, true, true, false] _ _
    refine wpAnyH_ready (rs := [13]) (by kernel_rfl) (by simp) ?_
    refine AllReadyH.cons rfl (fun K hK => ?_) AllReadyH.nil
    simp only [zA, zB, zC]
    refine (if_pos (by kernel_rfl)).mpr ?_
    refine wp_store_row 22 _ _ rfl pB (x1.map B).toArray rfl rfl 22 ZB HZ1.out (HZI.out _ HX1.out) (HZS.out _ HX1.out) (HZO.out _) ?_
    replace HZ0 := Lib.hid (show (wx2.setRow pB (x1.map B).toArray).heap[pA]? = _ from ArrKit.Bk.rowOther HZ0.out _ (HPQ.out))
    replace HZ1 : Hid (Bk (wx2.setRow pB (x1.map B).toArray) pB (x1.map B).toArray 22) := Lib.hid (ArrKit.Bk.row HZ1.out _)
    refine hK.out _ _ (ArrKit.Fr.row hHeld3 _ _ (.inl HLO1.out)) (fun hHeld4 => ?_)
    clear hK K hHeld3
    generalize (wx2.setRow pB (x1.map B).toArray) = wx3 at *
    change wpAnyH _ _ _ _ _ 0 #[true, true, true, true, true, true, true, true, true, true, true, true, true, true] _ _
    refine wpAnyH_done (by kernel_rfl) ?_ _
    refine NoPanic.normal ?_
    have HEND := Lib.hid hHeld4
    clear hHeld4
    exact HRESTA.out wx3 pA pB HEND.out HZ0.out HZ1.out HPQ.out HLO0.out HLO1.out

theorem lost_all (bl : List UInt8) (tw : Bool) (ys : List UInt8) (w : World) (hbl : bl.length = 128) (h2 : ys.length = 2) (hsh : Sh w) : Calls Tryd.prog 4 #[.agg (bl.map B).toArray, .bool tw, .agg (ys.map B).toArray] w fun e w' => e = .returned (.bool true) ∧ Fr0 w w' := by
  match ys, h2 with
  | [y0, y1], _ =>
    cases tw with
    | true => exact lost_t bl y0 y1 w hbl hsh
    | false => exact lost_f bl y0 y1 w hbl hsh

end Go.Proofs.YtmkmpfnadcmcoaaDoor.DitLostLaw
