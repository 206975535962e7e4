/- A sector asked for, and read, by a table: the walks of halves, asked and Read of both. -/
import Derived.Test.YtlleandelcjhjaaDoorRmSame
import Derived.Test.YtlleandelcjhjaaDoorDiskRead
import Derived.Test.YtlleandelcjhjaaDoorDiskRRead
set_option maxRecDepth 100000
set_option linter.unusedVariables false
set_option linter.unusedSimpArgs false
namespace Go.Proofs.YtlleandelcjhjaaDoor.RmRead
open Go Go.RowKit Go.Proofs.YtlleandelcjhjaaDoor.K Go.Proofs.YtlleandelcjhjaaDoor.EqKit Go.Proofs.YtlleandelcjhjaaDoor.ArrKit Go.Proofs.YtlleandelcjhjaaDoor.HeldKit Go.Proofs.YtlleandelcjhjaaDoor.GKit Go.Proofs.YtlleandelcjhjaaDoor.GRow Go.Proofs.YtlleandelcjhjaaDoor.DiskKit Go.Proofs.YtlleandelcjhjaaDoor.RmKit Go.Proofs.YtlleandelcjhjaaDoor.MapKit Go.Proofs.YtlleandelcjhjaaDoor.RmRight Go.Proofs.YtlleandelcjhjaaDoor.RmRRight Go.Proofs.YtlleandelcjhjaaDoor.RmTab Go.Proofs.YtlleandelcjhjaaDoor.RmAsk Go.Proofs.YtlleandelcjhjaaDoor.RmSame Go.Proofs.YtlleandelcjhjaaDoor.DiskRRead

/-- half of a disk; 0: it has none -/
def hvI (d : Dk) : Int := if formedB d = true then half (d.S.length : Int) else 0
theorem hvI_range (d : Dk) : 0 ≤ hvI d ∧ hvI d ≤ 2038 := by
  unfold hvI
  split
  · exact half_range _
  · omega
theorem wf_nat {n : Nat} (h : n ≤ 9223372036854775807) : (Lit.int .i64 (n : Int)).wf = true := by simp [Lit.wf, IntKind.min, IntKind.max, IntKind.signed, IntKind.bits]; omega
theorem formed_len {d : Dk} (h : formedB d = true) : d.S.length ≤ 4096 := by
  unfold formedB at h
  simp only [Bool.and_eq_true, decide_eq_true_eq] at h
  exact h.2.2
set_option maxHeartbeats 2000000 in
set_option maxRecDepth 100000 in
theorem halves_calls (p : Nat) (d : Dk) (sa : Option Addr) (sc : Nat) (ca : Option Addr) (cc : Nat) (w : World) (hok : d.ok) (hv : DAt w p d sa sc ca cc) : Calls Tryd.prog 57 #[.pointer (some ⟨p, 0, none⟩)] w fun e w' => e = .returned (.int .i64 (hvI d)) ∧ Fr0 w w' := by
  have HFO := Lib.hid (DiskForm.formed_calls d sa sc ca cc w hok hv.v)
  have HV := Lib.hid hv
  have HID : Hid ((Tryd.prog.info? 39).map (·.size) = some (dval d sa sc ca cc).size) := Lib.hid info_d
  have HP0 : Hid ((dval d sa sc ca cc)[0]? = some (.slice sa d.S.length sc)) := Lib.hid rfl
  have hl : formedB d = true → d.S.length ≤ 4096 := formed_len
  unfold hvI
  have HHF : Hid (∀ W, d.S.length ≤ 4096 → Calls Tryd.prog 17 #[.int .i64 (d.S.length : Int)] W fun e w' => e = .returned (.int .i64 (half (d.S.length : Int))) ∧ w' = W) := Lib.hid (fun W h => half_calls _ W (wf_nat (by omega)))
  have HB := Lib.hid hv.blk
  clear hok hv
  generalize (dval d sa sc ca cc) = X at *
  cases hf : formedB d with
  | false =>
    rw [hf] at HFO
    clear hl hf
    go_enter Tryd.func57, Tryd.ntmps57
    go_wp2_with (first | ((with_reducible show wpList _ _ _ ({ dst := _, op := Op.load 39 _, type := _, pos := _, after := _, guard := _ } :: _) _ _); refine wpList_load_row_g (by rfl) 39 _ rfl p rfl 39 X (0, 0) _ HB.out Tryd.underlying39 rfl HID.out ?_) | (go_at_call 80; (with_reducible refine HFO.out.mono ?_); rintro e w1 ⟨rfl, hf1⟩; have HF1 := Lib.hid hf1; clear hf1))
    go_ret
    exact ⟨rfl, HF1.out⟩
  | true =>
    have hle := hl hf
    rw [hf] at HFO
    clear hl hf
    go_enter Tryd.func57, Tryd.ntmps57
    go_wp2_with (first | ((with_reducible show wpList _ _ _ ({ dst := _, op := Op.load 39 _, type := _, pos := _, after := _, guard := _ } :: _) _ _); refine wpList_load_row_g (by rfl) 39 _ rfl p rfl 39 X (0, 0) _ HB.out Tryd.underlying39 rfl HID.out ?_) | (go_at_call 80; (with_reducible refine HFO.out.mono ?_); rintro e w1 ⟨rfl, hf1⟩; have HF1 := Lib.hid hf1; have c0 : w1.cell? ⟨p, 0, none⟩ = some (.slice sa d.S.length sc) := (Bk.cell (hf1.keep HB.out (fun h => h)) 0).trans HP0.out; clear hf1) | (go_at_call 17; (with_reducible refine (HHF.out _ hle).mono ?_); rintro e w2 ⟨rfl, rfl⟩))
    go_ret
    exact ⟨rfl, HF1.out⟩
set_option maxHeartbeats 2000000 in
set_option maxRecDepth 100000 in
theorem rhalves_calls (d : Dk) (sa : Option Addr) (sc : Nat) (ca : Option Addr) (cc : Nat) (w : World) (hok : d.ok) (hv : DV w d sa sc ca cc) : Calls Tryd.prog 52 #[.agg (dval d sa sc ca cc)] w fun e w' => e = .returned (.int .i64 (hvI d)) ∧ Fr0 w w' := by
  have HF : Hid (Fr0 w (w.alloc (.cells (dval d sa sc ca cc) 39))) := Lib.hid (Fr.alloc (Fr.refl _ _) _)
  have HB : Hid (Bk (w.alloc (.cells (dval d sa sc ca cc) 39)) w.heap.size (dval d sa sc ca cc) 39) := Lib.hid (Bk.new w _)
  have HFO := Lib.hid (DiskAsk.rformed_calls d sa sc ca cc _ (hv.keep HF.out))
  have HID : Hid ((Tryd.prog.info? 39).map (·.size) = some (dval d sa sc ca cc).size) := Lib.hid info_d
  have HP0 : Hid ((dval d sa sc ca cc)[0]? = some (.slice sa d.S.length sc)) := Lib.hid rfl
  have hl : formedB d = true → d.S.length ≤ 4096 := formed_len
  unfold hvI
  have HHF : Hid (∀ W, d.S.length ≤ 4096 → Calls Tryd.prog 18 #[.int .i64 (d.S.length : Int)] W fun e w' => e = .returned (.int .i64 (half (d.S.length : Int))) ∧ w' = W) := Lib.hid (fun W h => rhalf_calls _ W (wf_nat (by omega)))
  clear hok hv
  generalize (dval d sa sc ca cc) = X at *
  cases hf : formedB d with
  | false =>
    rw [hf] at HFO
    clear hl hf
    go_enter Tryd.func52, Tryd.ntmps52
    go_wp2_with (first | ((with_reducible show wpList _ _ _ ({ dst := _, op := Op.load 39 _, type := _, pos := _, after := _, guard := _ } :: _) _ _); refine wpList_load_row_g (by rfl) 39 _ rfl w.heap.size rfl 39 X (0, 0) _ HB.out Tryd.underlying39 rfl HID.out ?_) | (go_at_call 71; (with_reducible refine HFO.out.mono ?_); rintro e w1 ⟨rfl, hf1⟩; have HF1 := Lib.hid (HF.out.then0 hf1); clear hf1))
    go_ret
    exact ⟨rfl, HF1.out⟩
  | true =>
    have hle := hl hf
    rw [hf] at HFO
    clear hl hf
    go_enter Tryd.func52, Tryd.ntmps52
    go_wp2_with (first | ((with_reducible show wpList _ _ _ ({ dst := _, op := Op.load 39 _, type := _, pos := _, after := _, guard := _ } :: _) _ _); refine wpList_load_row_g (by rfl) 39 _ rfl w.heap.size rfl 39 X (0, 0) _ HB.out Tryd.underlying39 rfl HID.out ?_) | (go_at_call 71; (with_reducible refine HFO.out.mono ?_); rintro e w1 ⟨rfl, hf1⟩; have HF1 := Lib.hid (HF.out.then0 hf1); have c0 : w1.cell? ⟨w.heap.size, 0, none⟩ = some (.slice sa d.S.length sc) := (Bk.cell (hf1.keep HB.out (fun h => h)) 0).trans HP0.out; clear hf1) | (go_at_call 18; (with_reducible refine (HHF.out _ hle).mono ?_); rintro e w2 ⟨rfl, rfl⟩))
    go_ret
    exact ⟨rfl, HF1.out⟩
def askedB (d : Dk) (m : Rm) (n : Int) : Bool := usableB n (hvI d) && tabB m (d.S.length : Int)

set_option maxHeartbeats 2000000 in
set_option maxRecDepth 100000 in
theorem asked_calls (p : Nat) (d : Dk) (sa : Option Addr) (sc : Nat) (ca : Option Addr) (cc : Nat) (m : Rm) (a : Option Addr) (c : Nat) (n : Int) (w : World) (hok : d.ok) (hv : DAt w p d sa sc ca cc) (hm : m.ok) (hr : RV w m a c) (hn : (Lit.int .i64 n).wf = true) : Calls Tryd.prog 42 #[.pointer (some ⟨p, 0, none⟩), .agg (rval m a c), .int .i64 n] w fun e w' => e = .returned (.bool (askedB d m n)) ∧ Fr0 w w' := by
  have HX : Hid (Bk (w.alloc (.cells (rval m a c) 24)) w.heap.size (rval m a c) 24) := Lib.hid (Bk.new w _)
  have HF : Hid (Fr0 w (w.alloc (.cells (rval m a c) 24))) := Lib.hid (Fr.alloc (Fr.refl _ _) _)
  have HHV : Hid (∀ W, Fr0 w W → Calls Tryd.prog 57 #[.pointer (some ⟨p, 0, none⟩)] W fun e w' => e = .returned (.int .i64 (hvI d)) ∧ Fr0 W w') := Lib.hid (fun W f => halves_calls p d sa sc ca cc W hok (hv.keep f))
  have HUS : Hid (∀ W, Calls Tryd.prog 39 #[.int .i64 n, .int .i64 (hvI d)] W fun e w' => e = .returned (.bool (usableB n (hvI d))) ∧ w' = W) := Lib.hid (fun W => usable_calls n (hvI d) W hn (hvI_range d))
  have HRI : Hid (∀ W, Fr0 w W → Calls Tryd.prog 13 #[.agg (rval m a c), .int .i64 (d.S.length : Int)] W fun e w' => e = .returned (.bool (tabB m (d.S.length : Int))) ∧ Fr0 W w') := Lib.hid (fun W f => RmRight.right_calls m a c _ W hm (hr.keep f) (wf_nat (Nat.le_trans hv.v.sn hv.v.sm)))
  have HC0 : Hid (∀ W, Fr0 w W → W.cell? ⟨p, 0, none⟩ = some (.slice sa d.S.length sc)) := Lib.hid (fun W f => Bk.cell (hv.keep f).blk 0)
  have HIN : Hid ((Tryd.prog.info? 24).map (·.size) = some (rval m a c).size) := Lib.hid (info_r _ _)
  have HS0 : Hid (Bk (w.alloc (.cells (rval m a c) 24)).drew w.heap.size (rval m a c) 24 ∧ Fr0 w (w.alloc (.cells (rval m a c) 24)).drew) := Lib.hid ⟨HX.out, Fr.drew HF.out⟩
  clear hok hv hm hr
  unfold askedB
  generalize rval m a c = X at *
  generalize hvI d = h at *
  generalize tabB m (d.S.length : Int) = tt at *
  go_enter Tryd.func42, Tryd.ntmps42
  go_wp2
  generalize hus : usableB n h = us at *
  have HUQ := Lib.hid hus
  clear hus
  cases us with
  | false =>
    refine wp_region_noPanic ?_
    refine wp_region_held_drew (S := (fun W : World => Bk W w.heap.size X 24 ∧ Fr0 w W)) (by kernel_rfl) (HS0.out) (fun hHeld0 => ?_)
    refine tk0 (i := 0) (v := .int .i64 n) rfl hHeld0 ?_
    simp only [Act.put, zA, zB, zC, zD, zE, zF]
    refine tk0 (i := 1) (v := .pointer (some ⟨p, 0, none⟩)) rfl hHeld0 ?_
    simp only [Act.put, zA, zB, zC, zD, zE, zF]
    change wpAnyH _ _ _ _ _ 12 #[true, true, false, false, false, false, false, false, false, false, false, false, false, false] _ _
    refine wpAnyH_ready (rs := [2]) (by kernel_rfl) (by simp) ?_
    refine AllReadyH.cons rfl (fun K hK => ?_) AllReadyH.nil
    simp only [zA, zB, zC]
    refine (if_pos (by kernel_rfl)).mpr ?_
    go_wp2_with fail
    refine (HHV.out _ (hHeld0).2).mono ?_
    rintro e wx0 ⟨rfl, hfx0⟩
    dsimp only
    refine hK.out _ _ (⟨hfx0.keep (hHeld0).1 (fun h => h), (hHeld0).2.then0 hfx0⟩) (fun hHeld1 => ?_)
    clear hK K hHeld0
    change wpAnyH _ _ _ _ _ 11 #[true, true, true, false, false, false, false, false, false, false, false, false, false, false] _ _
    refine wpAnyH_ready (rs := [3]) (by kernel_rfl) (by simp) ?_
    refine AllReadyH.cons rfl (fun K hK => ?_) AllReadyH.nil
    simp only [zA, zB, zC]
    refine (if_pos (by kernel_rfl)).mpr ?_
    go_wp2_with fail
    refine (HUS.out _).mono ?_
    rintro e wx1 ⟨rfl, rfl⟩
    dsimp only
    refine hK.out _ _ (hHeld1) (fun hHeld2 => ?_)
    clear hK K hHeld1
    refine tk0 (i := 4) (v := .bool false) rfl hHeld2 ?_
    simp only [Act.put, zA, zB, zC, zD, zE, zF]
    refine tk (i := 5) (v := undef) rfl (Or.inr ⟨by kernel_rfl, rfl⟩) hHeld2 ?_
    simp only [Act.put, zA, zB, zC, zD, zE, zF]
    refine tk (i := 6) (v := undef) rfl (Or.inr ⟨by kernel_rfl, rfl⟩) hHeld2 ?_
    simp only [Act.put, zA, zB, zC, zD, zE, zF]
    refine tk (i := 7) (v := undef) rfl (Or.inr ⟨by kernel_rfl, rfl⟩) hHeld2 ?_
    simp only [Act.put, zA, zB, zC, zD, zE, zF]
    refine tk (i := 8) (v := undef) rfl (Or.inr ⟨by kernel_rfl, rfl⟩) hHeld2 ?_
    simp only [Act.put, zA, zB, zC, zD, zE, zF]
    refine tk (i := 9) (v := undef) rfl (Or.inr ⟨by kernel_rfl, rfl⟩) hHeld2 ?_
    simp only [Act.put, zA, zB, zC, zD, zE, zF]
    refine tk (i := 10) (v := undef) rfl (Or.inr ⟨by kernel_rfl, rfl⟩) hHeld2 ?_
    simp only [Act.put, zA, zB, zC, zD, zE, zF]
    refine tk (i := 11) (v := undef) rfl (Or.inr ⟨by kernel_rfl, rfl⟩) hHeld2 ?_
    simp only [Act.put, zA, zB, zC, zD, zE, zF]
    refine tk0 (i := 12) (v := .bool false) rfl hHeld2 ?_
    simp only [Act.put, zA, zB, zC, zD, zE, zF]
    refine tk0 (i := 13) (v := .bool false) rfl hHeld2 ?_
    simp only [Act.put, zA, zB, zC, zD, zE, zF]
    change wpAnyH _ _ _ _ _ 0 #[true, true, true, true, true, true, true, true, true, true, true, true, true, true] _ _
    refine wpAnyH_done (by kernel_rfl) ?_ _
    refine NoPanic.normal ?_
    have HEND := Lib.hid hHeld2
    clear hHeld2
    go_wp2
    go_ret
    exact ⟨by rw [HUQ.out]; cases tt <;> rfl, HEND.out.2⟩
  | true =>
    refine wp_region_noPanic ?_
    refine wp_region_held_drew (S := (fun W : World => Bk W w.heap.size X 24 ∧ Fr0 w W)) (by kernel_rfl) (HS0.out) (fun hHeld0 => ?_)
    refine tk0 (i := 0) (v := .int .i64 n) rfl hHeld0 ?_
    simp only [Act.put, zA, zB, zC, zD, zE, zF]
    refine tk0 (i := 1) (v := .pointer (some ⟨p, 0, none⟩)) rfl hHeld0 ?_
    simp only [Act.put, zA, zB, zC, zD, zE, zF]
    change wpAnyH _ _ _ _ _ 12 #[true, true, false, false, false, false, false, false, false, false, false, false, false, false] _ _
    refine wpAnyH_ready (rs := [2]) (by kernel_rfl) (by simp) ?_
    refine AllReadyH.cons rfl (fun K hK => ?_) AllReadyH.nil
    simp only [zA, zB, zC]
    refine (if_pos (by kernel_rfl)).mpr ?_
    go_wp2_with fail
    refine (HHV.out _ (hHeld0).2).mono ?_
    rintro e wx0 ⟨rfl, hfx0⟩
    dsimp only
    refine hK.out _ _ (⟨hfx0.keep (hHeld0).1 (fun h => h), (hHeld0).2.then0 hfx0⟩) (fun hHeld1 => ?_)
    clear hK K hHeld0
    change wpAnyH _ _ _ _ _ 11 #[true, true, true, false, false, false, false, false, false, false, false, false, false, false] _ _
    refine wpAnyH_ready (rs := [3]) (by kernel_rfl) (by simp) ?_
    refine AllReadyH.cons rfl (fun K hK => ?_) AllReadyH.nil
    simp only [zA, zB, zC]
    refine (if_pos (by kernel_rfl)).mpr ?_
    go_wp2_with fail
    refine (HUS.out _).mono ?_
    rintro e wx1 ⟨rfl, rfl⟩
    dsimp only
    refine hK.out _ _ (hHeld1) (fun hHeld2 => ?_)
    clear hK K hHeld1
    refine tk0 (i := 4) (v := .bool true) rfl hHeld2 ?_
    simp only [Act.put, zA, zB, zC, zD, zE, zF]
    refine tk (i := 5) (v := .agg X) rfl (yields_row (by kernel_rfl) 24 _ rfl (w.heap.size) rfl 24 X (0, 0) _ (fun W h => h.1) Tryd.underlying24 rfl HIN.out) hHeld2 ?_
    simp only [Act.put, zA, zB, zC, zD, zE, zF]
    refine tk0 (i := 6) (v := .pointer (some ⟨p, 0, none⟩)) rfl hHeld2 ?_
    simp only [Act.put, zA, zB, zC, zD, zE, zF]
    refine tk0 (i := 7) (v := .pointer (some ⟨p, 0, none⟩)) rfl hHeld2 ?_
    simp only [Act.put, zA, zB, zC, zD, zE, zF]
    refine tk0 (i := 8) (v := .pointer (some ⟨p, 0, none⟩)) rfl hHeld2 ?_
    simp only [Act.put, zA, zB, zC, zD, zE, zF]
    refine tk (i := 9) (v := .slice sa d.S.length sc) rfl (Or.inl ⟨by kernel_rfl, fun w hSw => by have hcl := (fun _ h => HC0.out _ h.2) w hSw; go_simp⟩) hHeld2 ?_
    simp only [Act.put, zA, zB, zC, zD, zE, zF]
    refine tk (i := 10) (v := .int .i64 (d.S.length : Int)) rfl (Or.inl ⟨by kernel_rfl, fun w hSw => by go_simp⟩) hHeld2 ?_
    simp only [Act.put, zA, zB, zC, zD, zE, zF]
    change wpAnyH _ _ _ _ _ 3 #[true, true, true, true, true, true, true, true, true, true, true, false, false, false] _ _
    refine wpAnyH_ready (rs := [11]) (by kernel_rfl) (by simp) ?_
    refine AllReadyH.cons rfl (fun K hK => ?_) AllReadyH.nil
    simp only [zA, zB, zC]
    refine (if_pos (by kernel_rfl)).mpr ?_
    go_wp2_with fail
    refine (HRI.out _ (hHeld2).2).mono ?_
    rintro e wx2 ⟨rfl, hfx2⟩
    dsimp only
    refine hK.out _ _ (⟨hfx2.keep (hHeld2).1 (fun h => h), (hHeld2).2.then0 hfx2⟩) (fun hHeld3 => ?_)
    clear hK K hHeld2
    refine tk0 (i := 12) (v := .bool tt) rfl hHeld3 ?_
    simp only [Act.put, zA, zB, zC, zD, zE, zF]
    refine tk0 (i := 13) (v := .bool tt) rfl hHeld3 ?_
    simp only [Act.put, zA, zB, zC, zD, zE, zF]
    change wpAnyH _ _ _ _ _ 0 #[true, true, true, true, true, true, true, true, true, true, true, true, true, true] _ _
    refine wpAnyH_done (by kernel_rfl) ?_ _
    refine NoPanic.normal ?_
    have HEND := Lib.hid hHeld3
    clear hHeld3
    go_wp2
    go_ret
    exact ⟨by rw [HUQ.out]; cases tt <;> rfl, HEND.out.2⟩


end Go.Proofs.YtlleandelcjhjaaDoor.RmRead
