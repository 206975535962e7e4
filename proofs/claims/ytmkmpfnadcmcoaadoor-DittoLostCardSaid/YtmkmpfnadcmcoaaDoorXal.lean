/- The theorems that the claim uses, text behind text (part 12). -/
import Derived.Test.YtmkmpfnadcmcoaaDoorXad
import Derived.Test.YtmkmpfnadcmcoaaDoorXai
import Derived.Test.YtmkmpfnadcmcoaaDoorXaj
import Derived.Test.YtmkmpfnadcmcoaaDoorXak
set_option maxRecDepth 100000
set_option linter.unusedVariables false
set_option linter.unusedSimpArgs false
namespace Go.Proofs.YtmkmpfnadcmcoaaDoor.RmRead
open Go Go.RowKit Go.Proofs.YtmkmpfnadcmcoaaDoor.K Go.Proofs.YtmkmpfnadcmcoaaDoor.EqKit Go.Proofs.YtmkmpfnadcmcoaaDoor.ArrKit Go.Proofs.YtmkmpfnadcmcoaaDoor.HeldKit Go.Proofs.YtmkmpfnadcmcoaaDoor.GKit Go.Proofs.YtmkmpfnadcmcoaaDoor.GRow Go.Proofs.YtmkmpfnadcmcoaaDoor.DiskKit Go.Proofs.YtmkmpfnadcmcoaaDoor.RmKit Go.Proofs.YtmkmpfnadcmcoaaDoor.MapKit Go.Proofs.YtmkmpfnadcmcoaaDoor.RmRight Go.Proofs.YtmkmpfnadcmcoaaDoor.RmTab Go.Proofs.YtmkmpfnadcmcoaaDoor.RmAsk Go.Proofs.YtmkmpfnadcmcoaaDoor.RmSame Go.Proofs.YtmkmpfnadcmcoaaDoor.DiskRRead
/-- half of a disk; 0: it has none -/
def hvI (d : Dk) : Int := if formedB d = true then half (d.S.length : Int) else 0
theorem hvI_range (d : Dk) : 0 ≤ hvI d ∧ hvI d ≤ 2038 := by
  unfold hvI
  split
  · exact half_range _
  · omega
theorem wf_nat {n : Nat} (h : n ≤ 9223372036854775807) : (Lit.int .i64 (n : Int)).wf = true := by simp [Lit.wf, IntKind.min, IntKind.max, IntKind.signed, IntKind.bits]; omega
theorem formed_len {d : Dk} (h : formedB d = true) : d.S.length ≤ 4096 := by
  unfold formedB at h
  simp only [Bool.and_eq_true, decide_eq_true_eq] at h
  exact h.2.2
set_option maxHeartbeats 2000000 in
set_option maxRecDepth 100000 in
theorem halves_calls (p : Nat) (d : Dk) (sa : Option Addr) (sc : Nat) (ca : Option Addr) (cc : Nat) (w : World) (hok : d.ok) (hv : DAt w p d sa sc ca cc) : Calls Tryd.prog 34 #[.pointer (some ⟨p, 0, none⟩)] w fun e w' => e = .returned (.int .i64 (hvI d)) ∧ Fr0 w w' := by
  have HFO := Lib.hid (DiskForm.formed_calls d sa sc ca cc w hok hv.v)
  have HV := Lib.hid hv
  have HID : Hid ((Tryd.prog.info? 29).map (·.size) = some (dval d sa sc ca cc).size) := Lib.hid info_d
  have HP0 : Hid ((dval d sa sc ca cc)[0]? = some (.slice sa d.S.length sc)) := Lib.hid rfl
  have hl : formedB d = true → d.S.length ≤ 4096 := formed_len
  unfold hvI
  have HHF : Hid (∀ W, d.S.length ≤ 4096 → Calls Tryd.prog 42 #[.int .i64 (d.S.length : Int)] W fun e w' => e = .returned (.int .i64 (half (d.S.length : Int))) ∧ w' = W) := Lib.hid (fun W h => half_calls _ W (wf_nat (by omega)))
  have HB := Lib.hid hv.blk
  clear hok hv
  generalize (dval d sa sc ca cc) = X at *
  cases hf : formedB d with
  | false =>
    rw [hf] at HFO
    clear hl hf
    go_enter Tryd.func34, Tryd.ntmps34
    go_wp2_with (first | ((with_reducible show wpList _ _ _ ({ dst := _, op := Op.load 29 _, type := _, pos := _, after := _, guard := _ } :: _) _ _); refine wpList_load_row_g (by rfl) 29 _ rfl p rfl 29 X (0, 0) _ HB.out Tryd.underlying29 rfl HID.out ?_) | (go_at_call 40; (with_reducible refine HFO.out.mono ?_); rintro e w1 ⟨rfl, hf1⟩; have HF1 := Lib.hid hf1; clear hf1))
    go_ret
    exact ⟨rfl, HF1.out⟩
  | true =>
    have hle := hl hf
    rw [hf] at HFO
    clear hl hf
    go_enter Tryd.func34, Tryd.ntmps34
    go_wp2_with (first | ((with_reducible show wpList _ _ _ ({ dst := _, op := Op.load 29 _, type := _, pos := _, after := _, guard := _ } :: _) _ _); refine wpList_load_row_g (by rfl) 29 _ rfl p rfl 29 X (0, 0) _ HB.out Tryd.underlying29 rfl HID.out ?_) | (go_at_call 40; (with_reducible refine HFO.out.mono ?_); rintro e w1 ⟨rfl, hf1⟩; have HF1 := Lib.hid hf1; have c0 : w1.cell? ⟨p, 0, none⟩ = some (.slice sa d.S.length sc) := (Bk.cell (hf1.keep HB.out (fun h => h)) 0).trans HP0.out; clear hf1) | (go_at_call 42; (with_reducible refine (HHF.out _ hle).mono ?_); rintro e w2 ⟨rfl, rfl⟩))
    go_ret
    exact ⟨rfl, HF1.out⟩
def askedB (d : Dk) (m : Rm) (n : Int) : Bool := usableB n (hvI d) && tabB m (d.S.length : Int)

set_option maxHeartbeats 2000000 in
set_option maxRecDepth 100000 in
theorem asked_calls (p : Nat) (d : Dk) (sa : Option Addr) (sc : Nat) (ca : Option Addr) (cc : Nat) (m : Rm) (a : Option Addr) (c : Nat) (n : Int) (w : World) (hok : d.ok) (hv : DAt w p d sa sc ca cc) (hm : m.ok) (hr : RV w m a c) (hn : (Lit.int .i64 n).wf = true) : Calls Tryd.prog 31 #[.pointer (some ⟨p, 0, none⟩), .agg (rval m a c), .int .i64 n] w fun e w' => e = .returned (.bool (askedB d m n)) ∧ Fr0 w w' := by
  have HX : Hid (Bk (w.alloc (.cells (rval m a c) 32)) w.heap.size (rval m a c) 32) := Lib.hid (Bk.new w _)
  have HF : Hid (Fr0 w (w.alloc (.cells (rval m a c) 32))) := Lib.hid (Fr.alloc (Fr.refl _ _) _)
  have HHV : Hid (∀ W, Fr0 w W → Calls Tryd.prog 34 #[.pointer (some ⟨p, 0, none⟩)] W fun e w' => e = .returned (.int .i64 (hvI d)) ∧ Fr0 W w') := Lib.hid (fun W f => halves_calls p d sa sc ca cc W hok (hv.keep f))
  have HUS : Hid (∀ W, Calls Tryd.prog 53 #[.int .i64 n, .int .i64 (hvI d)] W fun e w' => e = .returned (.bool (usableB n (hvI d))) ∧ w' = W) := Lib.hid (fun W => usable_calls n (hvI d) W hn (hvI_range d))
  have HRI : Hid (∀ W, Fr0 w W → Calls Tryd.prog 41 #[.agg (rval m a c), .int .i64 (d.S.length : Int)] W fun e w' => e = .returned (.bool (tabB m (d.S.length : Int))) ∧ Fr0 W w') := Lib.hid (fun W f => RmRight.right_calls m a c _ W hm (hr.keep f) (wf_nat (Nat.le_trans hv.v.sn hv.v.sm)))
  have HC0 : Hid (∀ W, Fr0 w W → W.cell? ⟨p, 0, none⟩ = some (.slice sa d.S.length sc)) := Lib.hid (fun W f => Bk.cell (hv.keep f).blk 0)
  have HIN : Hid ((Tryd.prog.info? 32).map (·.size) = some (rval m a c).size) := Lib.hid (info_r _ _)
  have HS0 : Hid (Bk (w.alloc (.cells (rval m a c) 32)).drew w.heap.size (rval m a c) 32 ∧ Fr0 w (w.alloc (.cells (rval m a c) 32)).drew) := Lib.hid ⟨HX.out, Fr.drew HF.out⟩
  clear hok hv hm hr
  unfold askedB
  generalize rval m a c = X at *
  generalize hvI d = h at *
  generalize tabB m (d.S.length : Int) = tt at *
  go_enter Tryd.func31, Tryd.ntmps31
  go_wp2
  generalize hus : usableB n h = us at *
  have HUQ := Lib.hid hus
  clear hus
  cases us with
  | false =>
    refine wp_region_noPanic ?_
    refine wp_region_held_drew (S := (fun W : World => Bk W w.heap.size X 32 ∧ Fr0 w W)) (by kernel_rfl) (HS0.out) (fun hHeld0 => ?_)
    refine tk0 (i := 0) (v := .int .i64 n) rfl hHeld0 ?_
    simp only [Act.put, zA, zB, zC, zD, zE, zF]
    refine tk0 (i := 1) (v := .pointer (some ⟨p, 0, none⟩)) rfl hHeld0 ?_
    simp only [Act.put, zA, zB, zC, zD, zE, zF]
    change wpAnyH _ _ _ _ _ 12 #[true, true, false, false, false, false, false, false, false, false, false, false, false, false] _ _
    refine wpAnyH_ready (rs := [2]) (by kernel_rfl) (by simp) ?_
    refine AllReadyH.cons rfl (fun K hK => ?_) AllReadyH.nil
    simp only [zA, zB, zC]
    refine (if_pos (by kernel_rfl)).mpr ?_
    go_wp2_with fail
    refine (HHV.out _ (hHeld0).2).mono ?_
    rintro e wx0 ⟨rfl, hfx0⟩
    dsimp only
    refine hK.out _ _ (⟨hfx0.keep (hHeld0).1 (fun h => h), (hHeld0).2.then0 hfx0⟩) (fun hHeld1 => ?_)
    clear hK K hHeld0
    change wpAnyH _ _ _ _ _ 11 #[true, true, true, false, false, false, false, false, false, false, false, false, false, false] _ _
    refine wpAnyH_ready (rs := [3]) (by kernel_rfl) (by simp) ?_
    refine AllReadyH.cons rfl (fun K hK => ?_) AllReadyH.nil
    simp only [zA, zB, zC]
    refine (if_pos (by kernel_rfl)).mpr ?_
    go_wp2_with fail
    refine (HUS.out _).mono ?_
    rintro e wx1 ⟨rfl, rfl⟩
    dsimp only
    refine hK.out _ _ (hHeld1) (fun hHeld2 => ?_)
    clear hK K hHeld1
    refine tk0 (i := 4) (v := .bool false) rfl hHeld2 ?_
    simp only [Act.put, zA, zB, zC, zD, zE, zF]
    refine tk (i := 5) (v := undef) rfl (Or.inr ⟨by kernel_rfl, rfl⟩) hHeld2 ?_
    simp only [Act.put, zA, zB, zC, zD, zE, zF]
    refine tk (i := 6) (v := undef) rfl (Or.inr ⟨by kernel_rfl, rfl⟩) hHeld2 ?_
    simp only [Act.put, zA, zB, zC, zD, zE, zF]
    refine tk (i := 7) (v := undef) rfl (Or.inr ⟨by kernel_rfl, rfl⟩) hHeld2 ?_
    simp only [Act.put, zA, zB, zC, zD, zE, zF]
    refine tk (i := 8) (v := undef) rfl (Or.inr ⟨by kernel_rfl, rfl⟩) hHeld2 ?_
    simp only [Act.put, zA, zB, zC, zD, zE, zF]
    refine tk (i := 9) (v := undef) rfl (Or.inr ⟨by kernel_rfl, rfl⟩) hHeld2 ?_
    simp only [Act.put, zA, zB, zC, zD, zE, zF]
    refine tk (i := 10) (v := undef) rfl (Or.inr ⟨by kernel_rfl, rfl⟩) hHeld2 ?_
    simp only [Act.put, zA, zB, zC, zD, zE, zF]
    refine tk (i := 11) (v := undef) rfl (Or.inr ⟨by kernel_rfl, rfl⟩) hHeld2 ?_
    simp only [Act.put, zA, zB, zC, zD, zE, zF]
    refine tk0 (i := 12) (v := .bool false) rfl hHeld2 ?_
    simp only [Act.put, zA, zB, zC, zD, zE, zF]
    refine tk0 (i := 13) (v := .bool false) rfl hHeld2 ?_
    simp only [Act.put, zA, zB, zC, zD, zE, zF]
    change wpAnyH _ _ _ _ _ 0 #[true, true, true, true, true, true, true, true, true, true, true, true, true, true] _ _
    refine wpAnyH_done (by kernel_rfl) ?_ _
    refine NoPanic.normal ?_
    have HEND := Lib.hid hHeld2
    clear hHeld2
    go_wp2
    go_ret
    exact ⟨by rw [HUQ.out]; cases tt <;> rfl, HEND.out.2⟩
  | true =>
    refine wp_region_noPanic ?_
    refine wp_region_held_drew (S := (fun W : World => Bk W w.heap.size X 32 ∧ Fr0 w W)) (by kernel_rfl) (HS0.out) (fun hHeld0 => ?_)
    refine tk0 (i := 0) (v := .int .i64 n) rfl hHeld0 ?_
    simp only [Act.put, zA, zB, zC, zD, zE, zF]
    refine tk0 (i := 1) (v := .pointer (some ⟨p, 0, none⟩)) rfl hHeld0 ?_
    simp only [Act.put, zA, zB, zC, zD, zE, zF]
    change wpAnyH _ _ _ _ _ 12 #[true, true, false, false, false, false, false, false, false, false, false, false, false, false] _ _
    refine wpAnyH_ready (rs := [2]) (by kernel_rfl) (by simp) ?_
    refine AllReadyH.cons rfl (fun K hK => ?_) AllReadyH.nil
    simp only [zA, zB, zC]
    refine (if_pos (by kernel_rfl)).mpr ?_
    go_wp2_with fail
    refine (HHV.out _ (hHeld0).2).mono ?_
    rintro e wx0 ⟨rfl, hfx0⟩
    dsimp only
    refine hK.out _ _ (⟨hfx0.keep (hHeld0).1 (fun h => h), (hHeld0).2.then0 hfx0⟩) (fun hHeld1 => ?_)
    clear hK K hHeld0
    change wpAnyH _ _ _ _ _ 11 #[true, true, true, false, false, false, false, false, false, false, false, false, false, false] _ _
    refine wpAnyH_ready (rs := [3]) (by kernel_rfl) (by simp) ?_
    refine AllReadyH.cons rfl (fun K hK => ?_) AllReadyH.nil
    simp only [zA, zB, zC]
    refine (if_pos (by kernel_rfl)).mpr ?_
    go_wp2_with fail
    refine (HUS.out _).mono ?_
    rintro e wx1 ⟨rfl, rfl⟩
    dsimp only
    refine hK.out _ _ (hHeld1) (fun hHeld2 => ?_)
    clear hK K hHeld1
    refine tk0 (i := 4) (v := .bool true) rfl hHeld2 ?_
    simp only [Act.put, zA, zB, zC, zD, zE, zF]
    refine tk (i := 5) (v := .agg X) rfl (yields_row (by kernel_rfl) 32 _ rfl (w.heap.size) rfl 32 X (0, 0) _ (fun W h => h.1) Tryd.underlying32 rfl HIN.out) hHeld2 ?_
    simp only [Act.put, zA, zB, zC, zD, zE, zF]
    refine tk0 (i := 6) (v := .pointer (some ⟨p, 0, none⟩)) rfl hHeld2 ?_
    simp only [Act.put, zA, zB, zC, zD, zE, zF]
    refine tk0 (i := 7) (v := .pointer (some ⟨p, 0, none⟩)) rfl hHeld2 ?_
    simp only [Act.put, zA, zB, zC, zD, zE, zF]
    refine tk0 (i := 8) (v := .pointer (some ⟨p, 0, none⟩)) rfl hHeld2 ?_
    simp only [Act.put, zA, zB, zC, zD, zE, zF]
    refine tk (i := 9) (v := .slice sa d.S.length sc) rfl (Or.inl ⟨by kernel_rfl, fun w hSw => by have hcl := (fun _ h => HC0.out _ h.2) w hSw; go_simp⟩) hHeld2 ?_
    simp only [Act.put, zA, zB, zC, zD, zE, zF]
    refine tk (i := 10) (v := .int .i64 (d.S.length : Int)) rfl (Or.inl ⟨by kernel_rfl, fun w hSw => by go_simp⟩) hHeld2 ?_
    simp only [Act.put, zA, zB, zC, zD, zE, zF]
    change wpAnyH _ _ _ _ _ 3 #[true, true, true, true, true, true, true, true, true, true, true, false, false, false] _ _
    refine wpAnyH_ready (rs := [11]) (by kernel_rfl) (by simp) ?_
    refine AllReadyH.cons rfl (fun K hK => ?_) AllReadyH.nil
    simp only [zA, zB, zC]
    refine (if_pos (by kernel_rfl)).mpr ?_
    go_wp2_with fail
    refine (HRI.out _ (hHeld2).2).mono ?_
    rintro e wx2 ⟨rfl, hfx2⟩
    dsimp only
    refine hK.out _ _ (⟨hfx2.keep (hHeld2).1 (fun h => h), (hHeld2).2.then0 hfx2⟩) (fun hHeld3 => ?_)
    clear hK K hHeld2
    refine tk0 (i := 12) (v := .bool tt) rfl hHeld3 ?_
    simp only [Act.put, zA, zB, zC, zD, zE, zF]
    refine tk0 (i := 13) (v := .bool tt) rfl hHeld3 ?_
    simp only [Act.put, zA, zB, zC, zD, zE, zF]
    change wpAnyH _ _ _ _ _ 0 #[true, true, true, true, true, true, true, true, true, true, true, true, true, true] _ _
    refine wpAnyH_done (by kernel_rfl) ?_ _
    refine NoPanic.normal ?_
    have HEND := Lib.hid hHeld3
    clear hHeld3
    go_wp2
    go_ret
    exact ⟨by rw [HUQ.out]; cases tt <;> rfl, HEND.out.2⟩


end Go.Proofs.YtmkmpfnadcmcoaaDoor.RmRead
namespace Go.Proofs.YtmkmpfnadcmcoaaDoor.RmReads
open Go Go.RowKit Go.Proofs.YtmkmpfnadcmcoaaDoor.K Go.Proofs.YtmkmpfnadcmcoaaDoor.EqKit Go.Proofs.YtmkmpfnadcmcoaaDoor.ArrKit Go.Proofs.YtmkmpfnadcmcoaaDoor.HeldKit Go.Proofs.YtmkmpfnadcmcoaaDoor.GKit Go.Proofs.YtmkmpfnadcmcoaaDoor.GRow Go.Proofs.YtmkmpfnadcmcoaaDoor.DiskKit Go.Proofs.YtmkmpfnadcmcoaaDoor.RmKit Go.Proofs.YtmkmpfnadcmcoaaDoor.MapKit Go.Proofs.YtmkmpfnadcmcoaaDoor.RmRight Go.Proofs.YtmkmpfnadcmcoaaDoor.RmTab Go.Proofs.YtmkmpfnadcmcoaaDoor.RmPut Go.Proofs.YtmkmpfnadcmcoaaDoor.RmAsk Go.Proofs.YtmkmpfnadcmcoaaDoor.RmSame Go.Proofs.YtmkmpfnadcmcoaaDoor.DiskRRead Go.Proofs.YtmkmpfnadcmcoaaDoor.RmRead
theorem Z128_len : Z128.length = 128 := by simp [Z128]
theorem lastAt_len {l : List Wri} (h : ∀ x ∈ l, x.ok) {q : Int} {b : List UInt8} (hb : lastAt l q = some b) : b.length = 128 := by
  have key : ∀ (l : List Wri) (r : Option (List UInt8)), (∀ x ∈ l, x.ok) → (∀ y, r = some y → y.length = 128) → ∀ y, l.foldl (fun r x => if x.pos = q then some x.data else r) r = some y → y.length = 128 := by
    intro l
    induction l with
    | nil => intro r _ h2 y hy; exact h2 y hy
    | cons x t ih =>
      intro r h1 h2 y hy
      rw [List.foldl_cons] at hy
      refine ih _ (fun z hz => h1 z (List.mem_cons_of_mem _ hz)) (fun z hz => ?_) y hy
      split at hz
      · cases hz; exact (h1 x (List.mem_cons_self ..)).len
      · exact h2 z hz
  exact key l none h (fun y e => by cases e) b hb
theorem tab_len {m : Rm} {s : Int} (h : tabB m s = true) : m.ps.length ≤ 20 := (tab_parts h).2.2.2.1
theorem readX_len {d : Dk} (h : d.ok) (q : Int) : (readX d q).1.length = 128 := by
  unfold readX
  split
  · exact Z128_len
  · split
    · exact Z128_len
    · split
      · rename_i x hx
        exact lastAt_len h.c hx
      · split
        · exact Z128_len
        · show (secAt d q).data.length = 128
          unfold secAt
          rw [List.getD_eq_getElem?_getD]
          cases e : d.S[q.toNat]? with
          | none => exact Z128_len
          | some s => exact h.s s (List.mem_of_getElem? e)
/-- what is read by a table -/
def rdX (d : Dk) (m : Rm) (n : Int) : List UInt8 × Int := if askedB d m n = true then readX d (atI m n) else (Z128, 1)
theorem rdX_len {d : Dk} (h : d.ok) (m : Rm) (n : Int) : (rdX d m n).1.length = 128 := by
  unfold rdX
  split
  · exact readX_len h _
  · exact Z128_len

set_option maxHeartbeats 2000000 in
set_option maxRecDepth 100000 in
theorem rmread_calls (p : Nat) (d : Dk) (sa : Option Addr) (sc : Nat) (ca : Option Addr) (cc : Nat) (m : Rm) (a : Option Addr) (c : Nat) (n : Int) (w : World) (hok : d.ok) (hv : DAt w p d sa sc ca cc) (hm : m.ok) (hr : RV w m a c) (hn : (Lit.int .i64 n).wf = true) : Calls Tryd.prog 13 #[.pointer (some ⟨p, 0, none⟩), .agg (rval m a c), .int .i64 n] w fun e w' => e = .returned (readV (rdX d m n)) ∧ Fr0 w w' := by
  have hz := zero_bl
  have hs1 : (w.alloc (.cells (rval m a c) 32)).heap.size = w.heap.size + 1 := by simp
  have HX : Hid (Bk ((w.alloc (.cells (rval m a c) 32)).alloc (.cells ZB 22)) w.heap.size (rval m a c) 32) := Lib.hid (Bk.alloc (Bk.new w _) _)
  have HR : Hid (Bk ((w.alloc (.cells (rval m a c) 32)).alloc (.cells ZB 22)) (w.heap.size + 1) ZB 22) := Lib.hid (by have := Bk.new (w.alloc (.cells (rval m a c) 32)) (.cells ZB 22); rwa [hs1] at this)
  have HF : Hid (Fr0 w ((w.alloc (.cells (rval m a c) 32)).alloc (.cells ZB 22))) := Lib.hid (Fr.alloc (Fr.alloc (Fr.refl _ _) _) _)
  have HAS : Hid (∀ W, Fr0 w W → Calls Tryd.prog 31 #[.pointer (some ⟨p, 0, none⟩), .agg (rval m a c), .int .i64 n] W fun e w' => e = .returned (.bool (askedB d m n)) ∧ Fr0 W w') := Lib.hid (fun W f => asked_calls p d sa sc ca cc m a c n W hok (hv.keep f) hm (hr.keep f) hn)
  have HIN : Hid ((Tryd.prog.info? 32).map (·.size) = some (rval m a c).size) := Lib.hid (info_r _ _)
  have HIX : Hid (∀ q, (Tryd.prog.info? 22).map (·.size) = some ((readX d q).1.map B).toArray.size ∧ ZB.size = ((readX d q).1.map B).toArray.size ∧ ((readX d q).1.map B).toArray.all (·.oneCell') = true) := Lib.hid (fun q => ⟨info_l (readX_len hok q), size_l (readX_len hok q), one_l _⟩)
  have HRE : Hid (∀ W q, Fr0 w W → Calls Tryd.prog 32 #[.pointer (some ⟨p, 0, none⟩), .int .i64 q] W fun e w' => e = .returned (.tuple #[.agg ((readX d q).1.map B).toArray, .int .i64 (readX d q).2]) ∧ Fr0 W w') := Lib.hid (fun W q f => DiskRead.read_calls p q d sa sc ca cc W hok (hv.keep f))
  have HAT : Hid (∀ W, m.ps.length ≤ 20 → Fr0 w W → Calls Tryd.prog 33 #[.agg (rval m a c), .int .i64 n] W fun e w' => e = .returned (.int .i64 (atI m n)) ∧ Fr0 W w') := Lib.hid (fun W h f => at_calls m a c n W (hr.keep f) (by omega))
  have HTL : askedB d m n = true → m.ps.length ≤ 20 := fun h => by
    unfold askedB at h
    rw [Bool.and_eq_true] at h
    exact tab_len h.2
  have HBV := Lib.hid hv
  unfold rdX readV
  clear hok hm hr hn hs1
  generalize rval m a c = X at *
  cases hask : askedB d m n with
  | false =>
    rw [hask] at HAS
    clear hask HTL
    rw [if_neg (by simp)]
    go_enter Tryd.func13, Tryd.ntmps13
    go_wp2_with (first | ((with_reducible show wpList _ _ _ ({ dst := _, op := Op.load 32 _, type := _, pos := _, after := _, guard := _ } :: _) _ _); refine wpList_load_row_g (by rfl) 32 _ rfl w.heap.size rfl 32 X (0, 0) _ HX.out Tryd.underlying32 rfl HIN.out ?_) | (go_at_call 31; (with_reducible refine (HAS.out _ HF.out).mono ?_); rintro e w1 ⟨rfl, hf1⟩; have HF1 := Lib.hid (HF.out.then0 hf1); have HX1 := Lib.hid (hf1.keep HX.out (fun h => h)); have HR1 := Lib.hid (hf1.keep HR.out (fun h => h)); clear hf1) | ((with_reducible show wpList _ _ _ ({ dst := _, op := Op.build 22 _, type := _, pos := _, after := _, guard := _ } :: _) _ _); refine build_ev rfl 22 _ rfl [] (by simp) ZB built_zb ?_) | ((with_reducible show wpList _ _ _ ({ dst := _, op := Op.store 22 _ _, type := _, pos := _, after := _, guard := _ } :: _) _ _); refine wpList_store_row rfl 22 _ _ rfl (w.heap.size + 1) ZB rfl rfl 22 ZB HR1.out info_zb rfl ZB_one ?_))
    refine fin_ct (w.heap.size + 1) 22 ZB (.int .i64 1) (by rfl) (by rfl) (by rfl) (by rfl) Tryd.underlying22 (by rfl) info_zb (ArrKit.Bk.row HR1.out _) ?_
    exact ⟨rfl, ArrKit.Fr.row HF1.out _ _ (.inl (by omega))⟩
  | true =>
    have hlen := HTL hask
    rw [hask] at HAS
    clear hask HTL
    rw [if_pos rfl]
    generalize atI m n = q at *
    go_enter Tryd.func13, Tryd.ntmps13
    go_wp2_with (first | ((with_reducible show wpList _ _ _ ({ dst := _, op := Op.load 32 _, type := _, pos := _, after := _, guard := _ } :: _) _ _); refine wpList_load_row_g (by rfl) 32 _ rfl w.heap.size rfl 32 X (0, 0) _ HX.out Tryd.underlying32 rfl HIN.out ?_) | (go_at_call 31; (with_reducible refine (HAS.out _ HF.out).mono ?_); rintro e w1 ⟨rfl, hf1⟩; have HF1 := Lib.hid (HF.out.then0 hf1); have HX1 := Lib.hid (hf1.keep HX.out (fun h => h)); have HR1 := Lib.hid (hf1.keep HR.out (fun h => h)); clear hf1) | ((with_reducible show wpList _ _ _ ({ dst := _, op := Op.load 32 _, type := _, pos := _, after := _, guard := _ } :: _) _ _); refine wpList_load_row_g (by rfl) 32 _ rfl w.heap.size rfl 32 X (0, 0) _ HX1.out Tryd.underlying32 rfl HIN.out ?_) | (go_at_call 33; (with_reducible refine (HAT.out _ hlen HF1.out).mono ?_); rintro e w2 ⟨rfl, hf2⟩; have HF2 := Lib.hid (HF1.out.then0 hf2); have HR2 := Lib.hid (hf2.keep HR1.out (fun h => h)); clear hf2) | (go_at_call 32; (with_reducible refine (HRE.out _ _ HF2.out).mono ?_); rintro e w3 ⟨rfl, hf3⟩; have HF3 := Lib.hid (HF2.out.then0 hf3); have HR3 := Lib.hid (hf3.keep HR2.out (fun h => h)); clear hf3) | ((with_reducible show wpList _ _ _ ({ dst := _, op := Op.store 22 _ _, type := _, pos := _, after := _, guard := _ } :: _) _ _); refine wpList_store_row rfl 22 _ _ rfl (w.heap.size + 1) ((readX d q).1.map B).toArray rfl rfl 22 ZB HR3.out (HIX.out _).1 (HIX.out _).2.1 (HIX.out _).2.2 ?_))
    refine fin_ct (w.heap.size + 1) 22 ((readX d q).1.map B).toArray (.int .i64 (readX d q).2) (by rfl) (by rfl) (by rfl) (by rfl) Tryd.underlying22 (by rfl) (HIX.out _).1 (ArrKit.Bk.row HR3.out _) ?_
    exact ⟨rfl, ArrKit.Fr.row HF3.out _ _ (.inl (by omega))⟩

end Go.Proofs.YtmkmpfnadcmcoaaDoor.RmReads
