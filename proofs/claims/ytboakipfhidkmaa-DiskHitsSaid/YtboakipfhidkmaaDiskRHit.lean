/- A sector hit: the walk of the reference's Hit. -/
import Derived.Test.YtboakipfhidkmaaDiskHit
set_option linter.unusedVariables false
set_option linter.unusedSimpArgs false
namespace Go.Proofs.Ytboakipfhidkmaa.DiskRHit
open Go Go.RowKit Go.Proofs.Ytboakipfhidkmaa.K Go.Proofs.Ytboakipfhidkmaa.EqKit Go.Proofs.Ytboakipfhidkmaa.ArrKit Go.Proofs.Ytboakipfhidkmaa.HeldKit Go.Proofs.Ytboakipfhidkmaa.GKit Go.Proofs.Ytboakipfhidkmaa.GRow Go.Proofs.Ytboakipfhidkmaa.DiskKit Go.Proofs.Ytboakipfhidkmaa.DiskAsk Go.Proofs.Ytboakipfhidkmaa.DiskForm Go.Proofs.Ytboakipfhidkmaa.DiskAct Go.Proofs.Ytboakipfhidkmaa.DiskNew Go.Proofs.Ytboakipfhidkmaa.DiskCopy Go.Proofs.Ytboakipfhidkmaa.DiskLay Go.Proofs.Ytboakipfhidkmaa.DiskFlush Go.Proofs.Ytboakipfhidkmaa.DiskHit

set_option maxHeartbeats 2000000 in
set_option maxRecDepth 100000 in
theorem rhit_unf (p : Nat) (a kind place : Int) (y : UInt8) (d : Dk) (sa : Option Addr) (sc : Nat) (ca : Option Addr) (cc : Nat) (w : World) (hok : d.ok) (hv : DAt w p d sa sc ca cc) (hr : formedB d = false) : Calls Try.prog 27 #[.pointer (some ⟨p, 0, none⟩), .int .i64 a, .int .i64 kind, .int .i64 place, .int .u8 (y.toNat : Int)] w fun e w' => e = .returned (.int .i64 1) ∧ Now w w' p d := by
  have HRI := Lib.hid (rformed_calls d sa sc ca cc w hv.v)
  have HTH : Hid (∀ W, Calls Try.prog 31 #[.agg (dval d sa sc ca cc), .int .i64 a] W fun e w' => e = .returned (.bool (thereB d.S.length a)) ∧ Fr0 W w') := Lib.hid (fun W => there_calls _ _ _ _ _ _ _ W)
  have HV := Lib.hid hv
  rw [hr] at HRI
  clear hv hok hr
  go_enter Try.func27, Try.ntmps27
  go_wp2_with (first | ((with_reducible show wpList _ _ _ ({ dst := _, op := Op.load 25 _, type := _, pos := _, after := _, guard := _ } :: _) _ _); refine wpList_load_row_g (by rfl) 25 _ rfl p rfl 25 _ (0, 0) _ HV.out.blk Try.underlying25 rfl info_d ?_) | (go_at_call 17; (with_reducible refine (HRI.out).mono ?_); rintro e w2 ⟨rfl, hf2⟩; have HF2 := Lib.hid hf2; have HV2 := Lib.hid (HV.out.keep hf2); clear hf2))
  go_ret
  exact ⟨rfl, Now.same HV.out HF2.out⟩

set_option maxHeartbeats 2000000 in
set_option maxRecDepth 100000 in
theorem rhit_out (p : Nat) (a kind place : Int) (y : UInt8) (d : Dk) (sa : Option Addr) (sc : Nat) (ca : Option Addr) (cc : Nat) (w : World) (hok : d.ok) (hv : DAt w p d sa sc ca cc) (hr : formedB d = true) (ht : thereB d.S.length a = false) : Calls Try.prog 27 #[.pointer (some ⟨p, 0, none⟩), .int .i64 a, .int .i64 kind, .int .i64 place, .int .u8 (y.toNat : Int)] w fun e w' => e = .returned (.int .i64 1) ∧ Now w w' p d := by
  have HRI := Lib.hid (rformed_calls d sa sc ca cc w hv.v)
  have HTH : Hid (∀ W, Calls Try.prog 31 #[.agg (dval d sa sc ca cc), .int .i64 a] W fun e w' => e = .returned (.bool (thereB d.S.length a)) ∧ Fr0 W w') := Lib.hid (fun W => there_calls _ _ _ _ _ _ _ W)
  have HV := Lib.hid hv
  rw [hr] at HRI
  rw [ht] at HTH
  clear hv hok hr ht
  go_enter Try.func27, Try.ntmps27
  go_wp2_with (first | ((with_reducible show wpList _ _ _ ({ dst := _, op := Op.load 25 _, type := _, pos := _, after := _, guard := _ } :: _) _ _); refine wpList_load_row_g (by rfl) 25 _ rfl p rfl 25 _ (0, 0) _ HV.out.blk Try.underlying25 rfl info_d ?_) | (go_at_call 17; (with_reducible refine (HRI.out).mono ?_); rintro e w2 ⟨rfl, hf2⟩; have HF2 := Lib.hid hf2; have HV2 := Lib.hid (HV.out.keep hf2); clear hf2) | ((with_reducible show wpList _ _ _ ({ dst := _, op := Op.load 25 _, type := _, pos := _, after := _, guard := _ } :: _) _ _); refine wpList_load_row_g (by rfl) 25 _ rfl p rfl 25 _ (0, 0) _ HV2.out.blk Try.underlying25 rfl info_d ?_) | (go_at_call 31; (with_reducible refine (HTH.out _).mono ?_); rintro e w3 ⟨rfl, hf3⟩; have HF3 := Lib.hid (HF2.out.then0 hf3); have HV3 := Lib.hid (HV2.out.keep hf3); clear hf3))
  go_ret
  exact ⟨rfl, Now.same HV.out HF3.out⟩

set_option maxHeartbeats 2000000 in
set_option maxRecDepth 100000 in
theorem rhit_klo (p : Nat) (a kind place : Int) (y : UInt8) (d : Dk) (sa : Option Addr) (sc : Nat) (ca : Option Addr) (cc : Nat) (w : World) (hok : d.ok) (hv : DAt w p d sa sc ca cc) (hr : rightB d a = true) (h1 : kind < 1) : Calls Try.prog 27 #[.pointer (some ⟨p, 0, none⟩), .int .i64 a, .int .i64 kind, .int .i64 place, .int .u8 (y.toNat : Int)] w fun e w' => e = .returned (.int .i64 1) ∧ Now w w' p d := by
  have HRI := Lib.hid (rformed_calls d sa sc ca cc w hv.v)
  have HTH : Hid (∀ W, Calls Try.prog 31 #[.agg (dval d sa sc ca cc), .int .i64 a] W fun e w' => e = .returned (.bool (thereB d.S.length a)) ∧ Fr0 W w') := Lib.hid (fun W => there_calls _ _ _ _ _ _ _ W)
  have HV := Lib.hid hv
  have hrb := hr
  rw [rightB, Bool.and_eq_true] at hrb
  rw [hrb.1] at HTH
  rw [hrb.2] at HRI
  have c1 : decide (kind < 1) = true := decide_eq_true h1
  clear h1
  clear hv hok hr hrb
  go_enter Try.func27, Try.ntmps27
  go_wp2_with (first | ((with_reducible show wpList _ _ _ ({ dst := _, op := Op.load 25 _, type := _, pos := _, after := _, guard := _ } :: _) _ _); refine wpList_load_row_g (by rfl) 25 _ rfl p rfl 25 _ (0, 0) _ HV.out.blk Try.underlying25 rfl info_d ?_) | (go_at_call 17; (with_reducible refine (HRI.out).mono ?_); rintro e w2 ⟨rfl, hf2⟩; have HF2 := Lib.hid hf2; have HV2 := Lib.hid (HV.out.keep hf2); clear hf2) | ((with_reducible show wpList _ _ _ ({ dst := _, op := Op.load 25 _, type := _, pos := _, after := _, guard := _ } :: _) _ _); refine wpList_load_row_g (by rfl) 25 _ rfl p rfl 25 _ (0, 0) _ HV2.out.blk Try.underlying25 rfl info_d ?_) | (go_at_call 31; (with_reducible refine (HTH.out _).mono ?_); rintro e w3 ⟨rfl, hf3⟩; have HF3 := Lib.hid (HF2.out.then0 hf3); have HV3 := Lib.hid (HV2.out.keep hf3); clear hf3))
  go_ret
  exact ⟨rfl, Now.same HV.out HF3.out⟩

set_option maxHeartbeats 2000000 in
set_option maxRecDepth 100000 in
theorem rhit_khi (p : Nat) (a kind place : Int) (y : UInt8) (d : Dk) (sa : Option Addr) (sc : Nat) (ca : Option Addr) (cc : Nat) (w : World) (hok : d.ok) (hv : DAt w p d sa sc ca cc) (hr : rightB d a = true) (h1 : 3 < kind) : Calls Try.prog 27 #[.pointer (some ⟨p, 0, none⟩), .int .i64 a, .int .i64 kind, .int .i64 place, .int .u8 (y.toNat : Int)] w fun e w' => e = .returned (.int .i64 1) ∧ Now w w' p d := by
  have HRI := Lib.hid (rformed_calls d sa sc ca cc w hv.v)
  have HTH : Hid (∀ W, Calls Try.prog 31 #[.agg (dval d sa sc ca cc), .int .i64 a] W fun e w' => e = .returned (.bool (thereB d.S.length a)) ∧ Fr0 W w') := Lib.hid (fun W => there_calls _ _ _ _ _ _ _ W)
  have HV := Lib.hid hv
  have hrb := hr
  rw [rightB, Bool.and_eq_true] at hrb
  rw [hrb.1] at HTH
  rw [hrb.2] at HRI
  have c1 : decide (kind < 1) = false := decide_eq_false (by omega)
  have c2 : decide (3 < kind) = true := decide_eq_true h1
  clear h1
  clear hv hok hr hrb
  go_enter Try.func27, Try.ntmps27
  go_wp2_with (first | ((with_reducible show wpList _ _ _ ({ dst := _, op := Op.load 25 _, type := _, pos := _, after := _, guard := _ } :: _) _ _); refine wpList_load_row_g (by rfl) 25 _ rfl p rfl 25 _ (0, 0) _ HV.out.blk Try.underlying25 rfl info_d ?_) | (go_at_call 17; (with_reducible refine (HRI.out).mono ?_); rintro e w2 ⟨rfl, hf2⟩; have HF2 := Lib.hid hf2; have HV2 := Lib.hid (HV.out.keep hf2); clear hf2) | ((with_reducible show wpList _ _ _ ({ dst := _, op := Op.load 25 _, type := _, pos := _, after := _, guard := _ } :: _) _ _); refine wpList_load_row_g (by rfl) 25 _ rfl p rfl 25 _ (0, 0) _ HV2.out.blk Try.underlying25 rfl info_d ?_) | (go_at_call 31; (with_reducible refine (HTH.out _).mono ?_); rintro e w3 ⟨rfl, hf3⟩; have HF3 := Lib.hid (HF2.out.then0 hf3); have HV3 := Lib.hid (HV2.out.keep hf3); clear hf3))
  go_ret
  exact ⟨rfl, Now.same HV.out HF3.out⟩

set_option maxHeartbeats 2000000 in
set_option maxRecDepth 100000 in
theorem rhit_plo (p : Nat) (a kind place : Int) (y : UInt8) (d : Dk) (sa : Option Addr) (sc : Nat) (ca : Option Addr) (cc : Nat) (w : World) (hok : d.ok) (hv : DAt w p d sa sc ca cc) (hr : rightB d a = true) (h1 : kind = 1) (h2 : place < 0) : Calls Try.prog 27 #[.pointer (some ⟨p, 0, none⟩), .int .i64 a, .int .i64 kind, .int .i64 place, .int .u8 (y.toNat : Int)] w fun e w' => e = .returned (.int .i64 1) ∧ Now w w' p d := by
  have HRI := Lib.hid (rformed_calls d sa sc ca cc w hv.v)
  have HTH : Hid (∀ W, Calls Try.prog 31 #[.agg (dval d sa sc ca cc), .int .i64 a] W fun e w' => e = .returned (.bool (thereB d.S.length a)) ∧ Fr0 W w') := Lib.hid (fun W => there_calls _ _ _ _ _ _ _ W)
  have HV := Lib.hid hv
  have hrb := hr
  rw [rightB, Bool.and_eq_true] at hrb
  rw [hrb.1] at HTH
  rw [hrb.2] at HRI
  have c1 : decide (kind < 1) = false := decide_eq_false (by omega)
  have c2 : decide (3 < kind) = false := decide_eq_false (by omega)
  have c3 : (kind == 1) = true := by simpa using h1
  have c4 : decide (place < 0) = true := decide_eq_true h2
  clear h1 h2
  clear hv hok hr hrb
  go_enter Try.func27, Try.ntmps27
  go_wp2_with (first | ((with_reducible show wpList _ _ _ ({ dst := _, op := Op.load 25 _, type := _, pos := _, after := _, guard := _ } :: _) _ _); refine wpList_load_row_g (by rfl) 25 _ rfl p rfl 25 _ (0, 0) _ HV.out.blk Try.underlying25 rfl info_d ?_) | (go_at_call 17; (with_reducible refine (HRI.out).mono ?_); rintro e w2 ⟨rfl, hf2⟩; have HF2 := Lib.hid hf2; have HV2 := Lib.hid (HV.out.keep hf2); clear hf2) | ((with_reducible show wpList _ _ _ ({ dst := _, op := Op.load 25 _, type := _, pos := _, after := _, guard := _ } :: _) _ _); refine wpList_load_row_g (by rfl) 25 _ rfl p rfl 25 _ (0, 0) _ HV2.out.blk Try.underlying25 rfl info_d ?_) | (go_at_call 31; (with_reducible refine (HTH.out _).mono ?_); rintro e w3 ⟨rfl, hf3⟩; have HF3 := Lib.hid (HF2.out.then0 hf3); have HV3 := Lib.hid (HV2.out.keep hf3); clear hf3))
  go_ret
  exact ⟨rfl, Now.same HV.out HF3.out⟩

set_option maxHeartbeats 2000000 in
set_option maxRecDepth 100000 in
theorem rhit_phi (p : Nat) (a kind place : Int) (y : UInt8) (d : Dk) (sa : Option Addr) (sc : Nat) (ca : Option Addr) (cc : Nat) (w : World) (hok : d.ok) (hv : DAt w p d sa sc ca cc) (hr : rightB d a = true) (h1 : kind = 1) (h2 : 128 ≤ place) : Calls Try.prog 27 #[.pointer (some ⟨p, 0, none⟩), .int .i64 a, .int .i64 kind, .int .i64 place, .int .u8 (y.toNat : Int)] w fun e w' => e = .returned (.int .i64 1) ∧ Now w w' p d := by
  have HRI := Lib.hid (rformed_calls d sa sc ca cc w hv.v)
  have HTH : Hid (∀ W, Calls Try.prog 31 #[.agg (dval d sa sc ca cc), .int .i64 a] W fun e w' => e = .returned (.bool (thereB d.S.length a)) ∧ Fr0 W w') := Lib.hid (fun W => there_calls _ _ _ _ _ _ _ W)
  have HV := Lib.hid hv
  have hrb := hr
  rw [rightB, Bool.and_eq_true] at hrb
  rw [hrb.1] at HTH
  rw [hrb.2] at HRI
  have c1 : decide (kind < 1) = false := decide_eq_false (by omega)
  have c2 : decide (3 < kind) = false := decide_eq_false (by omega)
  have c3 : (kind == 1) = true := by simpa using h1
  have c4 : decide (place < 0) = false := decide_eq_false (by omega)
  have c5 : decide (127 < place) = true := decide_eq_true (by omega)
  clear h1 h2
  clear hv hok hr hrb
  go_enter Try.func27, Try.ntmps27
  go_wp2_with (first | ((with_reducible show wpList _ _ _ ({ dst := _, op := Op.load 25 _, type := _, pos := _, after := _, guard := _ } :: _) _ _); refine wpList_load_row_g (by rfl) 25 _ rfl p rfl 25 _ (0, 0) _ HV.out.blk Try.underlying25 rfl info_d ?_) | (go_at_call 17; (with_reducible refine (HRI.out).mono ?_); rintro e w2 ⟨rfl, hf2⟩; have HF2 := Lib.hid hf2; have HV2 := Lib.hid (HV.out.keep hf2); clear hf2) | ((with_reducible show wpList _ _ _ ({ dst := _, op := Op.load 25 _, type := _, pos := _, after := _, guard := _ } :: _) _ _); refine wpList_load_row_g (by rfl) 25 _ rfl p rfl 25 _ (0, 0) _ HV2.out.blk Try.underlying25 rfl info_d ?_) | (go_at_call 31; (with_reducible refine (HTH.out _).mono ?_); rintro e w3 ⟨rfl, hf3⟩; have HF3 := Lib.hid (HF2.out.then0 hf3); have HV3 := Lib.hid (HV2.out.keep hf3); clear hf3))
  go_ret
  exact ⟨rfl, Now.same HV.out HF3.out⟩

theorem cell_eq {w : World} {g cap : Nat} {cur : Array Value} {l : List Sec} (h : OwnS w g cap cur l) {i : Nat} {hi : i < l.length} (hok : l[i].ok) (hq : i < l.length) (j : Nat) (hj : j < 130) : cur[i * 130 + j]? = l[i].cells[j]? := by
  have hl := Sec.len hok
  rw [List.getElem?_eq_getElem (by omega)]
  exact h.here i hi j _ (List.getElem?_eq_getElem (by omega))
/-- one cell of one sector laid anew -/
theorem OwnS.one {w w' : World} {g cap : Nat} {cur : Array Value} {l : List Sec} (h : OwnS w g cap cur l) (hok : ∀ x ∈ l, x.ok) {i : Nat} (hi : i < l.length) (j : Nat) (hj : j < 130) (u : Value) (s : Sec) (hs : s.ok) (hc : l[i].cells.toArray.setIfInBounds j u = s.cells.toArray)
    (hb : Bk w' g (cur.setIfInBounds (i * 130 + j) u) 67) : OwnS w' g cap (cur.setIfInBounds (i * 130 + j) u) (l.set i s) := by
  have hlo := hok _ (List.getElem_mem hi)
  refine OwnG.set h (secs_len hok) hi s (Sec.len hs) w' _ hb (by rw [Array.size_setIfInBounds]) (fun m v hm => ?_) (fun m hm => by rw [Array.getElem?_setIfInBounds, if_neg (by omega)])
  have hm' := (List.getElem?_eq_some_iff.1 hm).1
  rw [Sec.len hs] at hm'
  have e : (l[i].cells.toArray.setIfInBounds j u)[m]? = some v := by rw [hc, List.getElem?_toArray]; exact hm
  have hz : i * 130 + 130 ≤ cur.size := by have h1 := h.size; have h2 := h.room; omega
  rw [Array.getElem?_setIfInBounds, List.size_toArray, Sec.len hlo] at e
  rw [Array.getElem?_setIfInBounds]
  by_cases hjm : j = m
  · subst hjm
    rw [if_pos rfl, if_pos hj] at e
    rw [if_pos rfl, if_pos (by omega)]; exact e
  · rw [if_neg hjm, List.getElem?_toArray] at e
    rw [if_neg (by omega)]
    exact h.here i hi m v e

set_option maxHeartbeats 2000000 in
set_option maxRecDepth 100000 in
theorem rhit_k1 (p : Nat) (a kind place : Int) (y : UInt8) (d : Dk) (sa : Option Addr) (sc : Nat) (ca : Option Addr) (cc : Nat) (w : World) (hok : d.ok) (hv : DAt w p d sa sc ca cc) (hr : rightB d a = true) (h1 : kind = 1) (h2 : 0 ≤ place) (h3 : place < 128) : Calls Try.prog 27 #[.pointer (some ⟨p, 0, none⟩), .int .i64 a, .int .i64 kind, .int .i64 place, .int .u8 (y.toNat : Int)] w fun e w' => e = .returned (.int .i64 0) ∧ Now w w' p { d with S := d.S.set a.toNat (hitS (secAt d a) kind place y) } := by
  have HRI := Lib.hid (rformed_calls d sa sc ca cc w hv.v)
  have HTH : Hid (∀ W, Calls Try.prog 31 #[.agg (dval d sa sc ca cc), .int .i64 a] W fun e w' => e = .returned (.bool (thereB d.S.length a)) ∧ Fr0 W w') := Lib.hid (fun W => there_calls _ _ _ _ _ _ _ W)
  have HV := Lib.hid hv
  have hrb := hr
  rw [rightB, Bool.and_eq_true] at hrb
  rw [hrb.1] at HTH
  rw [hrb.2] at HRI
  have htt := thereB_true.1 hrb.1
  have hfm := formed_parts hrb.2
  have ha0 := htt.1
  have ha1 := htt.2
  have hq : a.toNat < d.S.length := by omega
  have hsn := hv.v.sn
  have hsm := hv.v.sm
  have hn2 := hfm.2.1
  have hsn1 : d.S.length ≤ 9223372036854775807 := by omega
  have hsn2 : d.S.length * 130 ≤ 140737488355328 := by omega
  have HSX : Hid (secAt d a = d.S[a.toNat]) := Lib.hid (by rw [secAt, List.getD_eq_getElem?_getD, List.getElem?_eq_getElem hq]; rfl)
  have HOK := Lib.hid hok
  have hsok : d.S[a.toNat].ok := hok.s _ (List.getElem_mem hq)
  have HSO := Lib.hid hsok
  have hpw : p < w.heap.size := Bk.lt hv.blk
  obtain ⟨i0, hi, hz0, hz1, hz2⟩ := info_parts infoS
  have HI : Hid (Try.prog.info? 67 = some i0 ∧ i0.zero = some (.agg ZSC) ∧ i0.size = 130 ∧ i0.bytes = 130) := Lib.hid ⟨hi, hz0, hz1, hz2⟩
  clear hi hz0 hz1 hz2
  clear htt hrb hfm hsok
  obtain ⟨vv, hvv⟩ : ∃ vv : UInt8, d.S[a.toNat].data.getD place.toNat 0 = vv := ⟨_, rfl⟩
  have HVV := Lib.hid hvv
  obtain ⟨zz, hzz⟩ : ∃ zz : UInt8, vv ^^^ y = zz := ⟨_, rfl⟩
  have HZZ := Lib.hid hzz
  clear hvv hzz
  have HHS : Hid (hitS (secAt d a) kind place y = ({ d.S[a.toNat] with data := d.S[a.toNat].data.set place.toNat zz } : Sec)) := Lib.hid (by rw [HSX.out]; unfold hitS; rw [if_pos h1, HVV.out, HZZ.out])
  have HSN : Hid (({ d.S[a.toNat] with data := d.S[a.toNat].data.set place.toNat zz } : Sec).ok) := Lib.hid ((show (d.S[a.toNat].data.set place.toNat _).length = 128 by rw [List.length_set]; exact HSO.out))
  have c1 : decide (kind < 1) = false := decide_eq_false (by omega)
  have c2 : decide (3 < kind) = false := decide_eq_false (by omega)
  have c3 : (kind == 1) = true := by simpa using h1
  have c4 : decide (place < 0) = false := decide_eq_false (by omega)
  have c5 : decide (127 < place) = false := decide_eq_false (by omega)
  have HVJ : Hid (d.S[a.toNat].cells[place.toNat]? = some (.int .u8 (vv.toNat : Int))) := Lib.hid (by
    have hl : d.S[a.toNat].data.length = 128 := HSO.out
    rw [← HVV.out, Sec.data_at HSO.out (by omega), List.getElem?_map, List.getD_eq_getElem?_getD, List.getElem?_eq_getElem (by omega)]; rfl)
  have hxr : bits .xor .u8 (vv.toNat : Int) (y.toNat : Int) = (zz.toNat : Int) := (xor_B vv y).trans (by rw [HZZ.out])
  have HCS : Hid (d.S[a.toNat].cells.toArray.setIfInBounds place.toNat (B zz) = ({ d.S[a.toNat] with data := d.S[a.toNat].data.set place.toNat zz } : Sec).cells.toArray) := Lib.hid (by have := hit1_cells HSO.out (show place.toNat < 128 by omega) y; rw [HVV.out, HZZ.out] at this; exact this)
  clear h1
  clear hv hok hr
  go_enter Try.func27, Try.ntmps27
  go_wp2_with (first | ((with_reducible show wpList _ _ _ ({ dst := _, op := Op.load 25 _, type := _, pos := _, after := _, guard := _ } :: _) _ _); refine wpList_load_row_g (by rfl) 25 _ rfl p rfl 25 _ (0, 0) _ HV.out.blk Try.underlying25 rfl info_d ?_) | (go_at_call 17; (with_reducible refine (HRI.out).mono ?_); rintro e w2 ⟨rfl, hf2⟩; have HF2 := Lib.hid hf2; have HV2 := Lib.hid (HV.out.keep hf2); clear hf2) | ((with_reducible show wpList _ _ _ ({ dst := _, op := Op.load 25 _, type := _, pos := _, after := _, guard := _ } :: _) _ _); refine wpList_load_row_g (by rfl) 25 _ rfl p rfl 25 _ (0, 0) _ HV2.out.blk Try.underlying25 rfl info_d ?_) | (go_at_call 31; (with_reducible refine (HTH.out _).mono ?_); rintro e w3 ⟨rfl, hf3⟩; have HF3 := Lib.hid (HF2.out.then0 hf3); have HV3 := Lib.hid (HV2.out.keep hf3); have q0 : w3.cell? ⟨p, 0, none⟩ = some (.slice sa d.S.length sc) := Bk.cell HV3.out.blk 0; have HFA : Hid (Fr0 w3 (w3.alloc (.cells #[] 67))) := Lib.hid (Fr.alloc (Fr.refl _ _) _); have HRA : Hid (RdS (w3.alloc (.cells #[] 67)) sa d.S) := Lib.hid (DV.keep HV3.out.v HFA.out).rs; have HE3 : Hid (Bk (w3.alloc (.cells #[] 67)) w3.heap.size #[] 67) := Lib.hid (Bk.new w3 _); have hp3 : p < w3.heap.size := hf3.lt (HF2.out.lt hpw); clear hf3) | (at_builtin; refine wpList_append_all rfl (.tmp 45) (.tmp 49) 22 (by rfl) i0 (.agg ZSC) 130 Try.underlying22 HI.out.1 HI.out.2.1 HI.out.2.2.1 HI.out.2.2.2 ZSC_cells (by decide) w3.heap.size HE3.out (by rfl) sa d.S.length sc (by rfl) d.S rfl HRA.out (secs_len HOK.out.s) (fun x _ => Sec.one x) hsn1 hsn2 ?_; intro g cap cur w5 hge hown hfr; have hfr2 := Fr.newG HFA.out hfr (Nat.le_refl _); have HV5 := Lib.hid (HV3.out.keep hfr2); have HF5 := Lib.hid (HF3.out.then0 hfr2); have p5 : w5.cell? ⟨p, 0, none⟩ = some (.slice sa d.S.length sc) := Bk.cell HV5.out.blk 0; have z5 := Bk.free HV5.out.blk 0; have hp5 : p < w5.heap.size := Bk.lt HV5.out.blk; have HO5 := Lib.hid hown; have hgp : p ≠ g := (by omega); have HGW : Hid (w.heap.size ≤ g) := Lib.hid (Nat.le_trans HF3.out.size hge); have ho6 : Bk (w5.setCell ⟨p, 0, none⟩ (.slice (some ⟨g, 0, none⟩) d.S.length cap)) g cur 67 := Bk.setOther hown.blk _ _ (Ne.symm hgp); have hcz : a.toNat * 130 + 130 ≤ cur.size := (by have h1 := hown.size; have h2 := hown.room; omega); have e6 : (w5.setCell ⟨p, 0, none⟩ (.slice (some ⟨g, 0, none⟩) d.S.length cap)).cell? ⟨g, a.toNat * 130 + place.toNat, none⟩ = d.S[a.toNat].cells[place.toNat]? := (by rw [Bk.cell ho6]; exact cell_eq hown HSO.out hq place.toNat (by omega)); rw [HVJ.out] at e6; have z6 := Bk.free ho6 (a.toNat * 130 + place.toNat); have q6 : (w5.setCell ⟨p, 0, none⟩ (.slice (some ⟨g, 0, none⟩) d.S.length cap)).cell? ⟨p, 0, none⟩ = some (.slice (some ⟨g, 0, none⟩) d.S.length cap) := Bk.cell (Bk.set HV5.out.blk 0 (.slice (some ⟨g, 0, none⟩) d.S.length cap)) 0; clear hge hown hfr hfr2))
  have HST : Hid (Stand [(p, .cells (DC (.slice (some ⟨g, 0, none⟩) d.S.length cap) (.slice ca d.C.length cc) d.fuse d.down) 25 (0, 0))] (w5.setCell ⟨p, 0, none⟩ (.slice (some ⟨g, 0, none⟩) d.S.length cap))) := Lib.hid (Stand.cons (Bk.set HV5.out.blk 0 _) (Stand.nil _))
  have HE7 : Hid ((w5.setCell ⟨p, 0, none⟩ (.slice (some ⟨g, 0, none⟩) d.S.length cap)).drew.cell? ⟨g, a.toNat * 130 + place.toNat, none⟩ = some (.int .u8 (vv.toNat : Int))) := Lib.hid e6
  have HG7 : Hid (Bk (w5.setCell ⟨p, 0, none⟩ (.slice (some ⟨g, 0, none⟩) d.S.length cap)).drew g cur 67) := Lib.hid ho6
  have HP7 : Hid (Bk (w5.setCell ⟨p, 0, none⟩ (.slice (some ⟨g, 0, none⟩) d.S.length cap)).drew p (DC (.slice (some ⟨g, 0, none⟩) d.S.length cap) (.slice ca d.C.length cc) d.fuse d.down) 25) := Lib.hid (Bk.set HV5.out.blk 0 _)
  have HF7 : Hid (Fr (fun i => i = p) w (w5.setCell ⟨p, 0, none⟩ (.slice (some ⟨g, 0, none⟩) d.S.length cap)).drew) := Lib.hid (Fr.drew (Fr.set (HF5.out.weaken (fun _ _ h => h.elim)) _ _ (.inr rfl)))
  have HV7 : Hid (DV (w5.setCell ⟨p, 0, none⟩ (.slice (some ⟨g, 0, none⟩) d.S.length cap)).drew d sa sc ca cc) := Lib.hid (DV.keep (DV.past HV5.out.v HOK.out (Fr.set1 w5 p 0 (.slice (some ⟨g, 0, none⟩) d.S.length cap)) HV5.out.blk (dval_no _ _ _ _ _)) (Fr.drew (Fr.refl _ _)))
  have hzl : ((({ d.S[a.toNat] with data := d.S[a.toNat].data.set place.toNat zz } : Sec)).data).length = 128 := HSN.out
  clear e6 z6 q6 ho6 p5 z5 q0 hzl
  refine wp_region_noPanic ?_
  refine wp_region_held_drew (S := (Stand [(p, .cells (DC (.slice (some ⟨g, 0, none⟩) d.S.length cap) (.slice ca d.C.length cc) d.fuse d.down) 25 (0, 0))])) (by kernel_rfl) (Stand.drew HST.out) (fun hHeld0 => ?_)
  generalize (w5.setCell ⟨p, 0, none⟩ (.slice (some ⟨g, 0, none⟩) d.S.length cap)).drew = wd at *
  change wpAnyH _ _ _ _ _ 16 #[false, false, false, false, false, false, false, false, false, false, false, false, false, false, false, false] _ _
  refine wpAnyH_take (i := 0) (v := .pointer (some ⟨p, 0, none⟩)) rfl (by kernel_rfl) (by kernel_rfl) (by kernel_rfl) (fun _ _ _ h => h) (Or.inl ⟨by kernel_rfl, fun w hSw => by first | kernel_rfl | (go_simp; done)⟩) hHeld0 ?_
  simp only [Act.put, List.getElem_toArray, List.getElem_cons_succ, List.getElem_cons_zero, List.setIfInBounds_toArray, List.set_cons_zero, List.set_cons_succ]
  change wpAnyH _ _ _ _ _ 15 #[true, false, false, false, false, false, false, false, false, false, false, false, false, false, false, false] _ _
  refine wpAnyH_take (i := 1) (v := .pointer (some ⟨p, 0, none⟩)) rfl (by kernel_rfl) (by kernel_rfl) (by kernel_rfl) (fun _ _ _ h => h) (Or.inl ⟨by kernel_rfl, fun w hSw => by first | kernel_rfl | (go_simp; done)⟩) hHeld0 ?_
  simp only [Act.put, List.getElem_toArray, List.getElem_cons_succ, List.getElem_cons_zero, List.setIfInBounds_toArray, List.set_cons_zero, List.set_cons_succ]
  change wpAnyH _ _ _ _ _ 14 #[true, true, false, false, false, false, false, false, false, false, false, false, false, false, false, false] _ _
  refine wpAnyH_take (i := 2) (v := .pointer (some ⟨p, 0, none⟩)) rfl (by kernel_rfl) (by kernel_rfl) (by kernel_rfl) (fun _ _ _ h => h) (Or.inl ⟨by kernel_rfl, fun w hSw => by first | kernel_rfl | (go_simp; done)⟩) hHeld0 ?_
  simp only [Act.put, List.getElem_toArray, List.getElem_cons_succ, List.getElem_cons_zero, List.setIfInBounds_toArray, List.set_cons_zero, List.set_cons_succ]
  change wpAnyH _ _ _ _ _ 13 #[true, true, true, false, false, false, false, false, false, false, false, false, false, false, false, false] _ _
  refine wpAnyH_take (i := 3) (v := .slice (some ⟨g, 0, none⟩) d.S.length cap) rfl (by kernel_rfl) (by kernel_rfl) (by kernel_rfl) (fun _ _ _ h => h) (Or.inl ⟨by kernel_rfl, fun w hSw => by have hcl := (fun W h => Bk.cell (Stand.a0 h) 0) w hSw; go_simp⟩) hHeld0 ?_
  simp only [Act.put, List.getElem_toArray, List.getElem_cons_succ, List.getElem_cons_zero, List.setIfInBounds_toArray, List.set_cons_zero, List.set_cons_succ]
  change wpAnyH _ _ _ _ _ 12 #[true, true, true, true, false, false, false, false, false, false, false, false, false, false, false, false] _ _
  refine wpAnyH_take (i := 4) (v := .int .i64 a) rfl (by kernel_rfl) (by kernel_rfl) (by kernel_rfl) (fun _ _ _ h => h) (Or.inl ⟨by kernel_rfl, fun w hSw => by first | kernel_rfl | (go_simp; done)⟩) hHeld0 ?_
  simp only [Act.put, List.getElem_toArray, List.getElem_cons_succ, List.getElem_cons_zero, List.setIfInBounds_toArray, List.set_cons_zero, List.set_cons_succ]
  change wpAnyH _ _ _ _ _ 11 #[true, true, true, true, true, false, false, false, false, false, false, false, false, false, false, false] _ _
  refine wpAnyH_take (i := 5) (v := .int .i64 place) rfl (by kernel_rfl) (by kernel_rfl) (by kernel_rfl) (fun _ _ _ h => h) (Or.inl ⟨by kernel_rfl, fun w hSw => by first | kernel_rfl | (go_simp; done)⟩) hHeld0 ?_
  simp only [Act.put, List.getElem_toArray, List.getElem_cons_succ, List.getElem_cons_zero, List.setIfInBounds_toArray, List.set_cons_zero, List.set_cons_succ]
  change wpAnyH _ _ _ _ _ 10 #[true, true, true, true, true, true, false, false, false, false, false, false, false, false, false, false] _ _
  refine wpAnyH_take (i := 6) (v := .pointer (some ⟨g, a.toNat * 130, none⟩)) rfl (by kernel_rfl) (by kernel_rfl) (by kernel_rfl) (fun _ _ _ h => h) (Or.inl ⟨by kernel_rfl, fun w hSw => by go_simp⟩) hHeld0 ?_
  simp only [Act.put, List.getElem_toArray, List.getElem_cons_succ, List.getElem_cons_zero, List.setIfInBounds_toArray, List.set_cons_zero, List.set_cons_succ]
  change wpAnyH _ _ _ _ _ 9 #[true, true, true, true, true, true, true, false, false, false, false, false, false, false, false, false] _ _
  refine wpAnyH_take (i := 7) (v := .pointer (some ⟨g, a.toNat * 130, none⟩)) rfl (by kernel_rfl) (by kernel_rfl) (by kernel_rfl) (fun _ _ _ h => h) (Or.inl ⟨by kernel_rfl, fun w hSw => by first | kernel_rfl | (go_simp; done)⟩) hHeld0 ?_
  simp only [Act.put, List.getElem_toArray, List.getElem_cons_succ, List.getElem_cons_zero, List.setIfInBounds_toArray, List.set_cons_zero, List.set_cons_succ]
  change wpAnyH _ _ _ _ _ 8 #[true, true, true, true, true, true, true, true, false, false, false, false, false, false, false, false] _ _
  refine wpAnyH_take (i := 8) (v := .pointer (some ⟨g, a.toNat * 130 + place.toNat, none⟩)) rfl (by kernel_rfl) (by kernel_rfl) (by kernel_rfl) (fun _ _ _ h => h) (Or.inl ⟨by kernel_rfl, fun w hSw => by go_simp⟩) hHeld0 ?_
  simp only [Act.put, List.getElem_toArray, List.getElem_cons_succ, List.getElem_cons_zero, List.setIfInBounds_toArray, List.set_cons_zero, List.set_cons_succ]
  change wpAnyH _ _ _ _ _ 7 #[true, true, true, true, true, true, true, true, true, false, false, false, false, false, false, false] _ _
  refine wpAnyH_take (i := 10) (v := .int .u8 (y.toNat : Int)) rfl (by kernel_rfl) (by kernel_rfl) (by kernel_rfl) (fun _ _ _ h => h) (Or.inl ⟨by kernel_rfl, fun w hSw => by first | kernel_rfl | (go_simp; done)⟩) hHeld0 ?_
  simp only [Act.put, List.getElem_toArray, List.getElem_cons_succ, List.getElem_cons_zero, List.setIfInBounds_toArray, List.set_cons_zero, List.set_cons_succ]
  change wpAnyH _ _ _ _ _ 6 #[true, true, true, true, true, true, true, true, true, false, true, false, false, false, false, false] _ _
  refine wpAnyH_take (i := 12) (v := .pointer (some ⟨g, a.toNat * 130, none⟩)) rfl (by kernel_rfl) (by kernel_rfl) (by kernel_rfl) (fun _ _ _ h => h) (Or.inl ⟨by kernel_rfl, fun w hSw => by go_simp⟩) hHeld0 ?_
  simp only [Act.put, List.getElem_toArray, List.getElem_cons_succ, List.getElem_cons_zero, List.setIfInBounds_toArray, List.set_cons_zero, List.set_cons_succ]
  change wpAnyH _ _ _ _ _ 5 #[true, true, true, true, true, true, true, true, true, false, true, false, true, false, false, false] _ _
  refine wpAnyH_take (i := 13) (v := .pointer (some ⟨g, a.toNat * 130, none⟩)) rfl (by kernel_rfl) (by kernel_rfl) (by kernel_rfl) (fun _ _ _ h => h) (Or.inl ⟨by kernel_rfl, fun w hSw => by first | kernel_rfl | (go_simp; done)⟩) hHeld0 ?_
  simp only [Act.put, List.getElem_toArray, List.getElem_cons_succ, List.getElem_cons_zero, List.setIfInBounds_toArray, List.set_cons_zero, List.set_cons_succ]
  change wpAnyH _ _ _ _ _ 4 #[true, true, true, true, true, true, true, true, true, false, true, false, true, true, false, false] _ _
  refine wpAnyH_ready (rs := [9]) (by kernel_rfl) (by simp) ?_
  refine AllReadyH.cons rfl (fun K hK => ?_) AllReadyH.nil
  simp only [List.getElem_toArray, List.getElem_cons_succ, List.getElem_cons_zero]
  refine (if_pos (by kernel_rfl)).mpr ?_
  have e7 : wd.cell? ⟨g, a.toNat * 130 + place.toNat, none⟩ = some (.int .u8 (vv.toNat : Int)) := HE7.out
  go_wp2_with fail
  refine hK.out _ _ (hHeld0) (fun hHeld1 => ?_)
  clear hK K hHeld0
  clear e7
  change wpAnyH _ _ _ _ _ 3 #[true, true, true, true, true, true, true, true, true, true, true, false, true, true, false, false] _ _
  refine wpAnyH_take (i := 11) (v := .int .u8 (zz.toNat : Int)) rfl (by kernel_rfl) (by kernel_rfl) (by kernel_rfl) (fun _ _ _ h => h) (Or.inl ⟨by kernel_rfl, fun w hSw => by go_simp⟩) hHeld1 ?_
  simp only [Act.put, List.getElem_toArray, List.getElem_cons_succ, List.getElem_cons_zero, List.setIfInBounds_toArray, List.set_cons_zero, List.set_cons_succ]
  change wpAnyH _ _ _ _ _ 2 #[true, true, true, true, true, true, true, true, true, true, true, true, true, true, false, false] _ _
  refine wpAnyH_take (i := 14) (v := .pointer (some ⟨g, a.toNat * 130 + place.toNat, none⟩)) rfl (by kernel_rfl) (by kernel_rfl) (by kernel_rfl) (fun _ _ _ h => h) (Or.inl ⟨by kernel_rfl, fun w hSw => by go_simp⟩) hHeld1 ?_
  simp only [Act.put, List.getElem_toArray, List.getElem_cons_succ, List.getElem_cons_zero, List.setIfInBounds_toArray, List.set_cons_zero, List.set_cons_succ]
  change wpAnyH _ _ _ _ _ 1 #[true, true, true, true, true, true, true, true, true, true, true, true, true, true, true, false] _ _
  refine wpAnyH_ready (rs := [15]) (by kernel_rfl) (by simp) ?_
  refine AllReadyH.cons rfl (fun K hK => ?_) AllReadyH.nil
  simp only [List.getElem_toArray, List.getElem_cons_succ, List.getElem_cons_zero]
  refine (if_pos (by kernel_rfl)).mpr ?_
  have e7 : wd.cell? ⟨g, a.toNat * 130 + place.toNat, none⟩ = some (.int .u8 (vv.toNat : Int)) := HE7.out
  have z7 := Bk.free HG7.out (a.toNat * 130 + place.toNat)
  go_wp2_with fail
  clear e7 z7
  refine hK.out _ _ (Stand.fr hHeld1 (Fr.set1 _ _ _ _) (fun r hr => by simp only [List.mem_cons, List.not_mem_nil, or_false] at hr; subst hr; exact hgp)) (fun hHeld2 => ?_)
  clear hK K hHeld1
  change wpAnyH _ _ _ _ _ 0 #[true, true, true, true, true, true, true, true, true, true, true, true, true, true, true, true] _ _
  refine wpAnyH_done (by kernel_rfl) ?_ _
  refine NoPanic.normal ?_
  have HEND := Lib.hid hHeld2
  clear hHeld2
  go_wp2_with fail
  go_ret
  have hfs := Fr.set1 wd g (a.toNat * 130 + place.toNat) (.int .u8 (zz.toNat : Int))
  have hcb : ∀ a', ca = some a' → d.C ≠ [] → ¬ a'.block = g := fun a' e hl => by
    subst e
    obtain ⟨b', o', e, hb, -⟩ := RdG.form HV.out.v.rc (List.length_pos_iff.2 hl) Wri.ps
    obtain rfl := Option.some.inj e
    have := HGW.out
    show ¬ b' = g
    omega
  have hrc := RdG.later HV7.out.rc hfs hcb
  have hset := OwnS.one HO5.out HOK.out.s hq place.toNat (by omega) (.int .u8 (zz.toNat : Int)) ({ d.S[a.toNat] with data := d.S[a.toNat].data.set place.toNat zz } : Sec) HSN.out HCS.out (Bk.set HG7.out (a.toNat * 130 + place.toNat) (.int .u8 (zz.toNat : Int)))
  rw [HHS.out]
  refine ⟨rfl, ⟨⟨some ⟨g, 0, none⟩, cap, ca, cc, ?_, ?_⟩, Fr.newG HF7.out hfs HGW.out⟩⟩
  · have := hfs.keep HP7.out hgp
    simp only [dval, List.length_set]
    exact this
  · exact ⟨hset.rd, hrc, hset.room, hset.max, HV7.out.cn, HV7.out.cm⟩

set_option maxHeartbeats 2000000 in
set_option maxRecDepth 100000 in
theorem rhit_k2 (p : Nat) (a kind place : Int) (y : UInt8) (d : Dk) (sa : Option Addr) (sc : Nat) (ca : Option Addr) (cc : Nat) (w : World) (hok : d.ok) (hv : DAt w p d sa sc ca cc) (hr : rightB d a = true) (h1 : kind = 2) : Calls Try.prog 27 #[.pointer (some ⟨p, 0, none⟩), .int .i64 a, .int .i64 kind, .int .i64 place, .int .u8 (y.toNat : Int)] w fun e w' => e = .returned (.int .i64 0) ∧ Now w w' p { d with S := d.S.set a.toNat (hitS (secAt d a) kind place y) } := by
  have HRI := Lib.hid (rformed_calls d sa sc ca cc w hv.v)
  have HTH : Hid (∀ W, Calls Try.prog 31 #[.agg (dval d sa sc ca cc), .int .i64 a] W fun e w' => e = .returned (.bool (thereB d.S.length a)) ∧ Fr0 W w') := Lib.hid (fun W => there_calls _ _ _ _ _ _ _ W)
  have HV := Lib.hid hv
  have hrb := hr
  rw [rightB, Bool.and_eq_true] at hrb
  rw [hrb.1] at HTH
  rw [hrb.2] at HRI
  have htt := thereB_true.1 hrb.1
  have hfm := formed_parts hrb.2
  have ha0 := htt.1
  have ha1 := htt.2
  have hq : a.toNat < d.S.length := by omega
  have hsn := hv.v.sn
  have hsm := hv.v.sm
  have hn2 := hfm.2.1
  have hsn1 : d.S.length ≤ 9223372036854775807 := by omega
  have hsn2 : d.S.length * 130 ≤ 140737488355328 := by omega
  have HSX : Hid (secAt d a = d.S[a.toNat]) := Lib.hid (by rw [secAt, List.getD_eq_getElem?_getD, List.getElem?_eq_getElem hq]; rfl)
  have HOK := Lib.hid hok
  have hsok : d.S[a.toNat].ok := hok.s _ (List.getElem_mem hq)
  have HSO := Lib.hid hsok
  have hpw : p < w.heap.size := Bk.lt hv.blk
  obtain ⟨i0, hi, hz0, hz1, hz2⟩ := info_parts infoS
  have HI : Hid (Try.prog.info? 67 = some i0 ∧ i0.zero = some (.agg ZSC) ∧ i0.size = 130 ∧ i0.bytes = 130) := Lib.hid ⟨hi, hz0, hz1, hz2⟩
  clear hi hz0 hz1 hz2
  clear htt hrb hfm hsok
  have HHS : Hid (hitS (secAt d a) kind place y = ({ d.S[a.toNat] with nr := true } : Sec)) := Lib.hid (by rw [HSX.out]; unfold hitS; rw [if_neg (by omega), if_pos h1])
  have HSN : Hid (({ d.S[a.toNat] with nr := true } : Sec).ok) := Lib.hid (HSO.out)
  have c1 : decide (kind < 1) = false := decide_eq_false (by omega)
  have c2 : decide (3 < kind) = false := decide_eq_false (by omega)
  have c3 : (kind == 1) = false := by simp [h1]
  have c4 : (kind == 2) = true := by simpa using h1
  have HCS := Lib.hid (hit2_cells HSO.out true)
  clear h1
  clear hv hok hr
  go_enter Try.func27, Try.ntmps27
  go_wp2_with (first | ((with_reducible show wpList _ _ _ ({ dst := _, op := Op.load 25 _, type := _, pos := _, after := _, guard := _ } :: _) _ _); refine wpList_load_row_g (by rfl) 25 _ rfl p rfl 25 _ (0, 0) _ HV.out.blk Try.underlying25 rfl info_d ?_) | (go_at_call 17; (with_reducible refine (HRI.out).mono ?_); rintro e w2 ⟨rfl, hf2⟩; have HF2 := Lib.hid hf2; have HV2 := Lib.hid (HV.out.keep hf2); clear hf2) | ((with_reducible show wpList _ _ _ ({ dst := _, op := Op.load 25 _, type := _, pos := _, after := _, guard := _ } :: _) _ _); refine wpList_load_row_g (by rfl) 25 _ rfl p rfl 25 _ (0, 0) _ HV2.out.blk Try.underlying25 rfl info_d ?_) | (go_at_call 31; (with_reducible refine (HTH.out _).mono ?_); rintro e w3 ⟨rfl, hf3⟩; have HF3 := Lib.hid (HF2.out.then0 hf3); have HV3 := Lib.hid (HV2.out.keep hf3); have q0 : w3.cell? ⟨p, 0, none⟩ = some (.slice sa d.S.length sc) := Bk.cell HV3.out.blk 0; have HFA : Hid (Fr0 w3 (w3.alloc (.cells #[] 67))) := Lib.hid (Fr.alloc (Fr.refl _ _) _); have HRA : Hid (RdS (w3.alloc (.cells #[] 67)) sa d.S) := Lib.hid (DV.keep HV3.out.v HFA.out).rs; have HE3 : Hid (Bk (w3.alloc (.cells #[] 67)) w3.heap.size #[] 67) := Lib.hid (Bk.new w3 _); have hp3 : p < w3.heap.size := hf3.lt (HF2.out.lt hpw); clear hf3) | (at_builtin; refine wpList_append_all rfl (.tmp 45) (.tmp 49) 22 (by rfl) i0 (.agg ZSC) 130 Try.underlying22 HI.out.1 HI.out.2.1 HI.out.2.2.1 HI.out.2.2.2 ZSC_cells (by decide) w3.heap.size HE3.out (by rfl) sa d.S.length sc (by rfl) d.S rfl HRA.out (secs_len HOK.out.s) (fun x _ => Sec.one x) hsn1 hsn2 ?_; intro g cap cur w5 hge hown hfr; have hfr2 := Fr.newG HFA.out hfr (Nat.le_refl _); have HV5 := Lib.hid (HV3.out.keep hfr2); have HF5 := Lib.hid (HF3.out.then0 hfr2); have p5 : w5.cell? ⟨p, 0, none⟩ = some (.slice sa d.S.length sc) := Bk.cell HV5.out.blk 0; have z5 := Bk.free HV5.out.blk 0; have hp5 : p < w5.heap.size := Bk.lt HV5.out.blk; have HO5 := Lib.hid hown; have hgp : p ≠ g := (by omega); have HGW : Hid (w.heap.size ≤ g) := Lib.hid (Nat.le_trans HF3.out.size hge); have ho6 : Bk (w5.setCell ⟨p, 0, none⟩ (.slice (some ⟨g, 0, none⟩) d.S.length cap)) g cur 67 := Bk.setOther hown.blk _ _ (Ne.symm hgp); have hcz : a.toNat * 130 + 130 ≤ cur.size := (by have h1 := hown.size; have h2 := hown.room; omega); have e6 : (w5.setCell ⟨p, 0, none⟩ (.slice (some ⟨g, 0, none⟩) d.S.length cap)).cell? ⟨g, a.toNat * 130 + 128, none⟩ = d.S[a.toNat].cells[128]? := (by rw [Bk.cell ho6]; exact cell_eq hown HSO.out hq 128 (by omega)); rw [Sec.nr_at HSO.out] at e6; have z6 := Bk.free ho6 (a.toNat * 130 + 128); have q6 : (w5.setCell ⟨p, 0, none⟩ (.slice (some ⟨g, 0, none⟩) d.S.length cap)).cell? ⟨p, 0, none⟩ = some (.slice (some ⟨g, 0, none⟩) d.S.length cap) := Bk.cell (Bk.set HV5.out.blk 0 (.slice (some ⟨g, 0, none⟩) d.S.length cap)) 0; clear hge hown hfr hfr2))
  have HG7 : Hid (Bk (w5.setCell ⟨p, 0, none⟩ (.slice (some ⟨g, 0, none⟩) d.S.length cap)) g cur 67) := Lib.hid ho6
  have HP7 : Hid (Bk (w5.setCell ⟨p, 0, none⟩ (.slice (some ⟨g, 0, none⟩) d.S.length cap)) p (DC (.slice (some ⟨g, 0, none⟩) d.S.length cap) (.slice ca d.C.length cc) d.fuse d.down) 25) := Lib.hid (Bk.set HV5.out.blk 0 _)
  have HF7 : Hid (Fr (fun i => i = p) w (w5.setCell ⟨p, 0, none⟩ (.slice (some ⟨g, 0, none⟩) d.S.length cap))) := Lib.hid (Fr.set (HF5.out.weaken (fun _ _ h => h.elim)) _ _ (.inr rfl))
  have HV7 : Hid (DV (w5.setCell ⟨p, 0, none⟩ (.slice (some ⟨g, 0, none⟩) d.S.length cap)) d sa sc ca cc) := Lib.hid (DV.past HV5.out.v HOK.out (Fr.set1 w5 p 0 (.slice (some ⟨g, 0, none⟩) d.S.length cap)) HV5.out.blk (dval_no _ _ _ _ _))
  go_ret
  have hfs := Fr.set1 (w5.setCell ⟨p, 0, none⟩ (.slice (some ⟨g, 0, none⟩) d.S.length cap)) g (a.toNat * 130 + 128) (.bool true)
  have hcb : ∀ a', ca = some a' → d.C ≠ [] → ¬ a'.block = g := fun a' e hl => by
    subst e
    obtain ⟨b', o', e, hb, -⟩ := RdG.form HV.out.v.rc (List.length_pos_iff.2 hl) Wri.ps
    obtain rfl := Option.some.inj e
    have := HGW.out
    show ¬ b' = g
    omega
  have hrc := RdG.later HV7.out.rc hfs hcb
  have hset := OwnS.one HO5.out HOK.out.s hq 128 (by omega) (.bool true) ({ d.S[a.toNat] with nr := true } : Sec) HSN.out HCS.out (Bk.set HG7.out (a.toNat * 130 + 128) (.bool true))
  rw [HHS.out]
  refine ⟨rfl, ⟨⟨some ⟨g, 0, none⟩, cap, ca, cc, ?_, ?_⟩, Fr.newG HF7.out hfs HGW.out⟩⟩
  · have := hfs.keep HP7.out hgp
    simp only [dval, List.length_set]
    exact this
  · exact ⟨hset.rd, hrc, hset.room, hset.max, HV7.out.cn, HV7.out.cm⟩

set_option maxHeartbeats 2000000 in
set_option maxRecDepth 100000 in
theorem rhit_k3 (p : Nat) (a kind place : Int) (y : UInt8) (d : Dk) (sa : Option Addr) (sc : Nat) (ca : Option Addr) (cc : Nat) (w : World) (hok : d.ok) (hv : DAt w p d sa sc ca cc) (hr : rightB d a = true) (h1 : kind = 3) : Calls Try.prog 27 #[.pointer (some ⟨p, 0, none⟩), .int .i64 a, .int .i64 kind, .int .i64 place, .int .u8 (y.toNat : Int)] w fun e w' => e = .returned (.int .i64 0) ∧ Now w w' p { d with S := d.S.set a.toNat (hitS (secAt d a) kind place y) } := by
  have HRI := Lib.hid (rformed_calls d sa sc ca cc w hv.v)
  have HTH : Hid (∀ W, Calls Try.prog 31 #[.agg (dval d sa sc ca cc), .int .i64 a] W fun e w' => e = .returned (.bool (thereB d.S.length a)) ∧ Fr0 W w') := Lib.hid (fun W => there_calls _ _ _ _ _ _ _ W)
  have HV := Lib.hid hv
  have hrb := hr
  rw [rightB, Bool.and_eq_true] at hrb
  rw [hrb.1] at HTH
  rw [hrb.2] at HRI
  have htt := thereB_true.1 hrb.1
  have hfm := formed_parts hrb.2
  have ha0 := htt.1
  have ha1 := htt.2
  have hq : a.toNat < d.S.length := by omega
  have hsn := hv.v.sn
  have hsm := hv.v.sm
  have hn2 := hfm.2.1
  have hsn1 : d.S.length ≤ 9223372036854775807 := by omega
  have hsn2 : d.S.length * 130 ≤ 140737488355328 := by omega
  have HSX : Hid (secAt d a = d.S[a.toNat]) := Lib.hid (by rw [secAt, List.getD_eq_getElem?_getD, List.getElem?_eq_getElem hq]; rfl)
  have HOK := Lib.hid hok
  have hsok : d.S[a.toNat].ok := hok.s _ (List.getElem_mem hq)
  have HSO := Lib.hid hsok
  have hpw : p < w.heap.size := Bk.lt hv.blk
  obtain ⟨i0, hi, hz0, hz1, hz2⟩ := info_parts infoS
  have HI : Hid (Try.prog.info? 67 = some i0 ∧ i0.zero = some (.agg ZSC) ∧ i0.size = 130 ∧ i0.bytes = 130) := Lib.hid ⟨hi, hz0, hz1, hz2⟩
  clear hi hz0 hz1 hz2
  clear htt hrb hfm hsok
  have HHS : Hid (hitS (secAt d a) kind place y = ({ d.S[a.toNat] with nw := true } : Sec)) := Lib.hid (by rw [HSX.out]; unfold hitS; rw [if_neg (by omega), if_neg (by omega)])
  have HSN : Hid (({ d.S[a.toNat] with nw := true } : Sec).ok) := Lib.hid (HSO.out)
  have c1 : decide (kind < 1) = false := decide_eq_false (by omega)
  have c2 : decide (3 < kind) = false := decide_eq_false (by omega)
  have c3 : (kind == 1) = false := by simp [h1]
  have c4 : (kind == 2) = false := by simp [h1]
  have HCS := Lib.hid (hit3_cells HSO.out true)
  clear h1
  clear hv hok hr
  go_enter Try.func27, Try.ntmps27
  go_wp2_with (first | ((with_reducible show wpList _ _ _ ({ dst := _, op := Op.load 25 _, type := _, pos := _, after := _, guard := _ } :: _) _ _); refine wpList_load_row_g (by rfl) 25 _ rfl p rfl 25 _ (0, 0) _ HV.out.blk Try.underlying25 rfl info_d ?_) | (go_at_call 17; (with_reducible refine (HRI.out).mono ?_); rintro e w2 ⟨rfl, hf2⟩; have HF2 := Lib.hid hf2; have HV2 := Lib.hid (HV.out.keep hf2); clear hf2) | ((with_reducible show wpList _ _ _ ({ dst := _, op := Op.load 25 _, type := _, pos := _, after := _, guard := _ } :: _) _ _); refine wpList_load_row_g (by rfl) 25 _ rfl p rfl 25 _ (0, 0) _ HV2.out.blk Try.underlying25 rfl info_d ?_) | (go_at_call 31; (with_reducible refine (HTH.out _).mono ?_); rintro e w3 ⟨rfl, hf3⟩; have HF3 := Lib.hid (HF2.out.then0 hf3); have HV3 := Lib.hid (HV2.out.keep hf3); have q0 : w3.cell? ⟨p, 0, none⟩ = some (.slice sa d.S.length sc) := Bk.cell HV3.out.blk 0; have HFA : Hid (Fr0 w3 (w3.alloc (.cells #[] 67))) := Lib.hid (Fr.alloc (Fr.refl _ _) _); have HRA : Hid (RdS (w3.alloc (.cells #[] 67)) sa d.S) := Lib.hid (DV.keep HV3.out.v HFA.out).rs; have HE3 : Hid (Bk (w3.alloc (.cells #[] 67)) w3.heap.size #[] 67) := Lib.hid (Bk.new w3 _); have hp3 : p < w3.heap.size := hf3.lt (HF2.out.lt hpw); clear hf3) | (at_builtin; refine wpList_append_all rfl (.tmp 45) (.tmp 49) 22 (by rfl) i0 (.agg ZSC) 130 Try.underlying22 HI.out.1 HI.out.2.1 HI.out.2.2.1 HI.out.2.2.2 ZSC_cells (by decide) w3.heap.size HE3.out (by rfl) sa d.S.length sc (by rfl) d.S rfl HRA.out (secs_len HOK.out.s) (fun x _ => Sec.one x) hsn1 hsn2 ?_; intro g cap cur w5 hge hown hfr; have hfr2 := Fr.newG HFA.out hfr (Nat.le_refl _); have HV5 := Lib.hid (HV3.out.keep hfr2); have HF5 := Lib.hid (HF3.out.then0 hfr2); have p5 : w5.cell? ⟨p, 0, none⟩ = some (.slice sa d.S.length sc) := Bk.cell HV5.out.blk 0; have z5 := Bk.free HV5.out.blk 0; have hp5 : p < w5.heap.size := Bk.lt HV5.out.blk; have HO5 := Lib.hid hown; have hgp : p ≠ g := (by omega); have HGW : Hid (w.heap.size ≤ g) := Lib.hid (Nat.le_trans HF3.out.size hge); have ho6 : Bk (w5.setCell ⟨p, 0, none⟩ (.slice (some ⟨g, 0, none⟩) d.S.length cap)) g cur 67 := Bk.setOther hown.blk _ _ (Ne.symm hgp); have hcz : a.toNat * 130 + 130 ≤ cur.size := (by have h1 := hown.size; have h2 := hown.room; omega); have e6 : (w5.setCell ⟨p, 0, none⟩ (.slice (some ⟨g, 0, none⟩) d.S.length cap)).cell? ⟨g, a.toNat * 130 + 129, none⟩ = d.S[a.toNat].cells[129]? := (by rw [Bk.cell ho6]; exact cell_eq hown HSO.out hq 129 (by omega)); rw [Sec.nw_at HSO.out] at e6; have z6 := Bk.free ho6 (a.toNat * 130 + 129); have q6 : (w5.setCell ⟨p, 0, none⟩ (.slice (some ⟨g, 0, none⟩) d.S.length cap)).cell? ⟨p, 0, none⟩ = some (.slice (some ⟨g, 0, none⟩) d.S.length cap) := Bk.cell (Bk.set HV5.out.blk 0 (.slice (some ⟨g, 0, none⟩) d.S.length cap)) 0; clear hge hown hfr hfr2))
  have HG7 : Hid (Bk (w5.setCell ⟨p, 0, none⟩ (.slice (some ⟨g, 0, none⟩) d.S.length cap)) g cur 67) := Lib.hid ho6
  have HP7 : Hid (Bk (w5.setCell ⟨p, 0, none⟩ (.slice (some ⟨g, 0, none⟩) d.S.length cap)) p (DC (.slice (some ⟨g, 0, none⟩) d.S.length cap) (.slice ca d.C.length cc) d.fuse d.down) 25) := Lib.hid (Bk.set HV5.out.blk 0 _)
  have HF7 : Hid (Fr (fun i => i = p) w (w5.setCell ⟨p, 0, none⟩ (.slice (some ⟨g, 0, none⟩) d.S.length cap))) := Lib.hid (Fr.set (HF5.out.weaken (fun _ _ h => h.elim)) _ _ (.inr rfl))
  have HV7 : Hid (DV (w5.setCell ⟨p, 0, none⟩ (.slice (some ⟨g, 0, none⟩) d.S.length cap)) d sa sc ca cc) := Lib.hid (DV.past HV5.out.v HOK.out (Fr.set1 w5 p 0 (.slice (some ⟨g, 0, none⟩) d.S.length cap)) HV5.out.blk (dval_no _ _ _ _ _))
  go_ret
  have hfs := Fr.set1 (w5.setCell ⟨p, 0, none⟩ (.slice (some ⟨g, 0, none⟩) d.S.length cap)) g (a.toNat * 130 + 129) (.bool true)
  have hcb : ∀ a', ca = some a' → d.C ≠ [] → ¬ a'.block = g := fun a' e hl => by
    subst e
    obtain ⟨b', o', e, hb, -⟩ := RdG.form HV.out.v.rc (List.length_pos_iff.2 hl) Wri.ps
    obtain rfl := Option.some.inj e
    have := HGW.out
    show ¬ b' = g
    omega
  have hrc := RdG.later HV7.out.rc hfs hcb
  have hset := OwnS.one HO5.out HOK.out.s hq 129 (by omega) (.bool true) ({ d.S[a.toNat] with nw := true } : Sec) HSN.out HCS.out (Bk.set HG7.out (a.toNat * 130 + 129) (.bool true))
  rw [HHS.out]
  refine ⟨rfl, ⟨⟨some ⟨g, 0, none⟩, cap, ca, cc, ?_, ?_⟩, Fr.newG HF7.out hfs HGW.out⟩⟩
  · have := hfs.keep HP7.out hgp
    simp only [dval, List.length_set]
    exact this
  · exact ⟨hset.rd, hrc, hset.room, hset.max, HV7.out.cn, HV7.out.cm⟩

/-- HIT: what the reference's Hit does. -/
theorem rhit_calls (p : Nat) (a kind place : Int) (y : UInt8) (d : Dk) (sa : Option Addr) (sc : Nat) (ca : Option Addr) (cc : Nat) (w : World) (hok : d.ok) (hv : DAt w p d sa sc ca cc) : Calls Try.prog 27 #[.pointer (some ⟨p, 0, none⟩), .int .i64 a, .int .i64 kind, .int .i64 place, .int .u8 (y.toNat : Int)] w fun e w' => e = .returned (.int .i64 (hitE d a kind place)) ∧ Now w w' p (hitD d a kind place y) := by
  unfold hitE hitD
  cases hr : rightB d a with
  | false =>
    rw [if_neg (by simp), if_neg (by simp)]
    cases hf : formedB d with
    | false => exact rhit_unf p a kind place y d sa sc ca cc w hok hv hf
    | true =>
      rw [rightB, hf, Bool.and_true] at hr
      exact rhit_out p a kind place y d sa sc ca cc w hok hv hf hr
  | true =>
    rw [Bool.true_and]
    by_cases h1 : kind = 1
    · by_cases h2 : place < 0
      · rw [show hitOK kind place = false from decide_eq_false (by omega), if_neg (by simp), if_neg (by simp)]; exact rhit_plo p a kind place y d sa sc ca cc w hok hv hr h1 h2
      · by_cases h3 : place < 128
        · rw [show hitOK kind place = true from decide_eq_true (by omega), if_pos rfl, if_pos rfl]; exact rhit_k1 p a kind place y d sa sc ca cc w hok hv hr h1 (by omega) h3
        · rw [show hitOK kind place = false from decide_eq_false (by omega), if_neg (by simp), if_neg (by simp)]; exact rhit_phi p a kind place y d sa sc ca cc w hok hv hr h1 (by omega)
    · by_cases h2 : kind = 2
      · rw [show hitOK kind place = true from decide_eq_true (by omega), if_pos rfl, if_pos rfl]; exact rhit_k2 p a kind place y d sa sc ca cc w hok hv hr h2
      · by_cases h3 : kind = 3
        · rw [show hitOK kind place = true from decide_eq_true (by omega), if_pos rfl, if_pos rfl]; exact rhit_k3 p a kind place y d sa sc ca cc w hok hv hr h3
        · rw [show hitOK kind place = false from decide_eq_false (by omega), if_neg (by simp), if_neg (by simp)]
          by_cases h4 : kind < 1
          · exact rhit_klo p a kind place y d sa sc ca cc w hok hv hr h4
          · exact rhit_khi p a kind place y d sa sc ca cc w hok hv hr (by omega)

end Go.Proofs.Ytboakipfhidkmaa.DiskRHit
