/- The theorems that the claim uses, text behind text (part 17). -/
import Derived.Test.YtmkmpfnadcmcoaaGreatDoorYag
import Derived.Test.YtmkmpfnadcmcoaaGreatDoorYam
import Derived.Test.YtmkmpfnadcmcoaaGreatDoorYan
import Derived.Test.YtmkmpfnadcmcoaaGreatDoorYap
set_option maxRecDepth 100000
set_option maxHeartbeats 8000000
set_option linter.unusedVariables false
set_option linter.unusedSimpArgs false
namespace Go.Proofs.YtmkmpfnadcmcoaaGreatDoor.RmRead
open Go Go.RowKit K EqKit ArrKit HeldKit GKit GRow DiskKit RmKit MapKit RmRight RmRRight RmTab RmAsk RmSame DiskRRead
def hvI (d : Dk) : Int := if formedB d = true then half (d.S.length : Int) else 0
theorem hvI_range (d : Dk) : 0 ≤ hvI d ∧ hvI d ≤ 2038 := by
 unfold hvI
 split
 ·exact half_range _
 ·omega
theorem wf_nat {n : Nat} (h : n ≤ 9223372036854775807) : (Lit.int .i64 (n : Int)).wf = true := by simp [Lit.wf, IntKind.min, IntKind.max, IntKind.signed, IntKind.bits];omega
theorem formed_len {d : Dk} (h : formedB d = true) : d.S.length ≤ 4096 := by
 unfold formedB at h
 simp only [Bool.and_eq_true, decide_eq_true_eq] at h
 exact h.2.2
theorem halves_calls (p : Nat) (d : Dk) (sa : Option Addr) (sc : Nat) (ca : Option Addr) (cc : Nat) (w : World) (hok : d.ok) (hv : DAt w p d sa sc ca cc) : Calls Tryz.prog 53 #[.pointer (some ⟨p, 0, none⟩)] w fun e w' => e = .returned (.int .i64 (hvI d)) ∧ Fr0 w w' := by
 have HFO := jq7 (DiskForm.formed_calls d sa sc ca cc w hok hv.v)
 have HV := jq7 hv
 have HID : Jq7 ((Tryz.prog.info? 25).map (·.size) = some (dval d sa sc ca cc).size) := jq7 info_d
 have HP0 : Jq7 ((dval d sa sc ca cc)[0]? = some (.slice sa d.S.length sc)) := jq7 rfl
 have hl : formedB d = true → d.S.length ≤ 4096 := formed_len
 unfold hvI
 have HHF : Jq7 (∀ W, d.S.length ≤ 4096 → Calls Tryz.prog 40 #[.int .i64 (d.S.length : Int)] W fun e w' => e = .returned (.int .i64 (half (d.S.length : Int))) ∧ w' = W) := jq7 (fun W h => half_calls _ W (wf_nat (by omega)))
 have HB := jq7 hv.blk
 clear hok hv
 generalize (dval d sa sc ca cc) = X at *
 cases hf : formedB d with
 | false =>
  rw [hf] at HFO
  clear hl hf
  go_enter Tryz.func53, Tryz.ntmps53
  go_wp2_with (first | ((with_reducible show wkq (.load 25 _) _);refine lr 25 p X HB.o HID.o ?_) | (go_at_call 37;(with_reducible refine HFO.o.mono ?_);rintro e w1 ⟨rfl, hf1⟩;have HF1 := jq7 hf1;clear hf1))
  go_ret
  exact ⟨rfl, HF1.o⟩
 | true =>
  have hle := hl hf
  rw [hf] at HFO
  clear hl hf
  go_enter Tryz.func53, Tryz.ntmps53
  go_wp2_with (first | ((with_reducible show wkq (.load 25 _) _);refine lr 25 p X HB.o HID.o ?_) | (go_at_call 37;(with_reducible refine HFO.o.mono ?_);rintro e w1 ⟨rfl, hf1⟩;have HF1 := jq7 hf1;have c0 : w1.cell? ⟨p, 0, none⟩ = some (.slice sa d.S.length sc) := (Bk.cell (hf1.keep HB.o (fun h => h)) 0).trans HP0.o;clear hf1) | (go_at_call 40;(with_reducible refine (HHF.o _ hle).mono ?_);rintro e w2 ⟨rfl, rfl⟩))
  go_ret
  exact ⟨rfl, HF1.o⟩
theorem rhalves_calls (d : Dk) (sa : Option Addr) (sc : Nat) (ca : Option Addr) (cc : Nat) (w : World) (hok : d.ok) (hv : DV w d sa sc ca cc) : Calls Tryz.prog 77 #[.agg (dval d sa sc ca cc)] w fun e w' => e = .returned (.int .i64 (hvI d)) ∧ Fr0 w w' := by
 have HF : Jq7 (Fr0 w (w.alloc (.cells (dval d sa sc ca cc) 25))) := jq7 (Fr.alloc (Fr.refl _ _) _)
 have HB : Jq7 (Bk (w.alloc (.cells (dval d sa sc ca cc) 25)) w.heap.size (dval d sa sc ca cc) 25) := jq7 (Bk.new w _)
 have HFO := jq7 (DiskAsk.rformed_calls d sa sc ca cc _ (hv.keep HF.o))
 have HID : Jq7 ((Tryz.prog.info? 25).map (·.size) = some (dval d sa sc ca cc).size) := jq7 info_d
 have HP0 : Jq7 ((dval d sa sc ca cc)[0]? = some (.slice sa d.S.length sc)) := jq7 rfl
 have hl : formedB d = true → d.S.length ≤ 4096 := formed_len
 unfold hvI
 have HHF : Jq7 (∀ W, d.S.length ≤ 4096 → Calls Tryz.prog 48 #[.int .i64 (d.S.length : Int)] W fun e w' => e = .returned (.int .i64 (half (d.S.length : Int))) ∧ w' = W) := jq7 (fun W h => rhalf_calls _ W (wf_nat (by omega)))
 clear hok hv
 generalize (dval d sa sc ca cc) = X at *
 cases hf : formedB d with
 | false =>
  rw [hf] at HFO
  clear hl hf
  go_enter Tryz.func77, Tryz.ntmps77
  go_wp2_with (first | ((with_reducible show wkq (.load 25 _) _);refine lr 25 w.heap.size X HB.o HID.o ?_) | (go_at_call 45;(with_reducible refine HFO.o.mono ?_);rintro e w1 ⟨rfl, hf1⟩;have HF1 := fq0 HF hf1;clear hf1))
  go_ret
  exact ⟨rfl, HF1.o⟩
 | true =>
  have hle := hl hf
  rw [hf] at HFO
  clear hl hf
  go_enter Tryz.func77, Tryz.ntmps77
  go_wp2_with (first | ((with_reducible show wkq (.load 25 _) _);refine lr 25 w.heap.size X HB.o HID.o ?_) | (go_at_call 45;(with_reducible refine HFO.o.mono ?_);rintro e w1 ⟨rfl, hf1⟩;have HF1 := fq0 HF hf1;have c0 : w1.cell? ⟨w.heap.size, 0, none⟩ = some (.slice sa d.S.length sc) := (Bk.cell (hf1.keep HB.o (fun h => h)) 0).trans HP0.o;clear hf1) | (go_at_call 48;(with_reducible refine (HHF.o _ hle).mono ?_);rintro e w2 ⟨rfl, rfl⟩))
  go_ret
  exact ⟨rfl, HF1.o⟩
def askedB (d : Dk) (m : Rm) (n : Int) : Bool := usableB n (hvI d) && tabB m (d.S.length : Int)

theorem asked_calls (p : Nat) (d : Dk) (sa : Option Addr) (sc : Nat) (ca : Option Addr) (cc : Nat) (m : Rm) (a : Option Addr) (c : Nat) (n : Int) (w : World) (hok : d.ok) (hv : DAt w p d sa sc ca cc) (hm : m.ok) (hr : RV w m a c) (hn : (Lit.int .i64 n).wf = true) : Calls Tryz.prog 58 #[.pointer (some ⟨p, 0, none⟩), .agg (rval m a c), .int .i64 n] w fun e w' => e = .returned (.bool (askedB d m n)) ∧ Fr0 w w' := by
 have HX : Jq7 (Bk (w.alloc (.cells (rval m a c) 28)) w.heap.size (rval m a c) 28) := jq7 (Bk.new w _)
 have HF : Jq7 (Fr0 w (w.alloc (.cells (rval m a c) 28))) := jq7 (Fr.alloc (Fr.refl _ _) _)
 have HHV : Jq7 (∀ W, Fr0 w W → Calls Tryz.prog 53 #[.pointer (some ⟨p, 0, none⟩)] W fun e w' => e = .returned (.int .i64 (hvI d)) ∧ Fr0 W w') := jq7 (fun W f => halves_calls p d sa sc ca cc W hok (hv.keep f))
 have HUS : Jq7 (∀ W, Calls Tryz.prog 66 #[.int .i64 n, .int .i64 (hvI d)] W fun e w' => e = .returned (.bool (usableB n (hvI d))) ∧ w' = W) := jq7 (fun W => usable_calls n (hvI d) W hn (hvI_range d))
 have HRI : Jq7 (∀ W, Fr0 w W → Calls Tryz.prog 38 #[.agg (rval m a c), .int .i64 (d.S.length : Int)] W fun e w' => e = .returned (.bool (tabB m (d.S.length : Int))) ∧ Fr0 W w') := jq7 (fun W f => RmRight.right_calls m a c _ W hm (hr.keep f) (wf_nat (Nat.le_trans hv.v.sn hv.v.sm)))
 have HC0 : Jq7 (∀ W, Fr0 w W → W.cell? ⟨p, 0, none⟩ = some (.slice sa d.S.length sc)) := jq7 (fun W f => Bk.cell (hv.keep f).blk 0)
 have HIN : Jq7 ((Tryz.prog.info? 28).map (·.size) = some (rval m a c).size) := jq7 (info_r _ _)
 have HS0 : Jq7 (Bk (w.alloc (.cells (rval m a c) 28)).drew w.heap.size (rval m a c) 28 ∧ Fr0 w (w.alloc (.cells (rval m a c) 28)).drew) := jq7 ⟨HX.o, Fr.drew HF.o⟩
 clear hok hv hm hr
 unfold askedB
 generalize rval m a c = X at *
 generalize hvI d = h at *
 generalize tabB m (d.S.length : Int) = tt at *
 go_enter Tryz.func58, Tryz.ntmps58
 go_wp2
 generalize hus : usableB n h = us at *
 have HUQ := jq7 hus
 clear hus
 cases us with
 | false =>
  refine wp_region_noPanic ?_
  refine wp_region_held_drew (S := (fun W : World => Bk W w.heap.size X 28 ∧ Fr0 w W)) (by kernel_rfl) (HS0.o) (fun hL0 => ?_)
  refine tk0 (i := 0) (v := .int .i64 n) rfl hL0 ?_
  refine tk0 (i := 1) (v := .pointer (some ⟨p, 0, none⟩)) rfl hL0 ?_
  simp only [Act.put,zA,zB,zC,zD,zE,zF]
  change wpAnyH _ _ _ _ _ 12 #[true, true, false, false, false, false, false, false, false, false, false, false, false, false] _ _
  refine rd1 2 rfl fun K hK => ?_
  simp only [zA, zB, zC]
  go_wp2_with fail
  refine (HHV.o _ (hL0).2).mono ?_
  rintro e wx0 ⟨rfl, hfx0⟩
  dsimp only
  refine hK.out _ _ (⟨hfx0.keep (hL0).1 (fun h => h), (hL0).2.then0 hfx0⟩) (fun hL1 => ?_)
  clear hK K hL0
  change wpAnyH _ _ _ _ _ 11 #[true, true, true, false, false, false, false, false, false, false, false, false, false, false] _ _
  refine rd1 3 rfl fun K hK => ?_
  simp only [zA, zB, zC]
  go_wp2_with fail
  refine (HUS.o _).mono ?_
  rintro e wx1 ⟨rfl, rfl⟩
  dsimp only
  refine hK.out _ _ (hL1) (fun hL2 => ?_)
  clear hK K hL1
  refine tk0 (i := 4) (v := .bool false) rfl hL2 ?_
  refine tk (i := 5) (v := undef) rfl (Or.inr ⟨by kernel_rfl, rfl⟩) hL2 ?_
  simp only [Act.put,zA,zB,zC,zD,zE,zF]
  refine tk (i := 6) (v := undef) rfl (Or.inr ⟨by kernel_rfl, rfl⟩) hL2 ?_
  refine tk (i := 7) (v := undef) rfl (Or.inr ⟨by kernel_rfl, rfl⟩) hL2 ?_
  simp only [Act.put,zA,zB,zC,zD,zE,zF]
  refine tk (i := 8) (v := undef) rfl (Or.inr ⟨by kernel_rfl, rfl⟩) hL2 ?_
  refine tk (i := 9) (v := undef) rfl (Or.inr ⟨by kernel_rfl, rfl⟩) hL2 ?_
  simp only [Act.put,zA,zB,zC,zD,zE,zF]
  refine tk (i := 10) (v := undef) rfl (Or.inr ⟨by kernel_rfl, rfl⟩) hL2 ?_
  refine tk (i := 11) (v := undef) rfl (Or.inr ⟨by kernel_rfl, rfl⟩) hL2 ?_
  simp only [Act.put,zA,zB,zC,zD,zE,zF]
  refine tk0 (i := 12) (v := .bool false) rfl hL2 ?_
  refine tk0 (i := 13) (v := .bool false) rfl hL2 ?_
  simp only [Act.put,zA,zB,zC,zD,zE,zF]
  change wpAnyH _ _ _ _ _ 0 #[true, true, true, true, true, true, true, true, true, true, true, true, true, true] _ _
  refine wpAnyH_done (by kernel_rfl) ?_ _
  refine NoPanic.normal ?_
  have HEND := jq7 hL2
  clear hL2
  go_wp2
  go_ret
  exact ⟨by rw [HUQ.o];cases tt <;> rfl, HEND.o.2⟩
 | true =>
  refine wp_region_noPanic ?_
  refine wp_region_held_drew (S := (fun W : World => Bk W w.heap.size X 28 ∧ Fr0 w W)) (by kernel_rfl) (HS0.o) (fun hL0 => ?_)
  refine tk0 (i := 0) (v := .int .i64 n) rfl hL0 ?_
  refine tk0 (i := 1) (v := .pointer (some ⟨p, 0, none⟩)) rfl hL0 ?_
  simp only [Act.put,zA,zB,zC,zD,zE,zF]
  change wpAnyH _ _ _ _ _ 12 #[true, true, false, false, false, false, false, false, false, false, false, false, false, false] _ _
  refine rd1 2 rfl fun K hK => ?_
  simp only [zA, zB, zC]
  go_wp2_with fail
  refine (HHV.o _ (hL0).2).mono ?_
  rintro e wx0 ⟨rfl, hfx0⟩
  dsimp only
  refine hK.out _ _ (⟨hfx0.keep (hL0).1 (fun h => h), (hL0).2.then0 hfx0⟩) (fun hL1 => ?_)
  clear hK K hL0
  change wpAnyH _ _ _ _ _ 11 #[true, true, true, false, false, false, false, false, false, false, false, false, false, false] _ _
  refine rd1 3 rfl fun K hK => ?_
  simp only [zA, zB, zC]
  go_wp2_with fail
  refine (HUS.o _).mono ?_
  rintro e wx1 ⟨rfl, rfl⟩
  dsimp only
  refine hK.out _ _ (hL1) (fun hL2 => ?_)
  clear hK K hL1
  refine tk0 (i := 4) (v := .bool true) rfl hL2 ?_
  refine tk (i := 5) (v := .agg X) rfl (yields_row (by kernel_rfl) 28 _ rfl (w.heap.size) rfl 28 X (0, 0) _ (fun W h => h.1) Tryz.underlying28 rfl HIN.o) hL2 ?_
  simp only [Act.put,zA,zB,zC,zD,zE,zF]
  refine tk0 (i := 6) (v := .pointer (some ⟨p, 0, none⟩)) rfl hL2 ?_
  refine tk0 (i := 7) (v := .pointer (some ⟨p, 0, none⟩)) rfl hL2 ?_
  simp only [Act.put,zA,zB,zC,zD,zE,zF]
  refine tk0 (i := 8) (v := .pointer (some ⟨p, 0, none⟩)) rfl hL2 ?_
  refine tk (i := 9) (v := .slice sa d.S.length sc) rfl (Or.inl ⟨by kernel_rfl, fun w hSw => by have hcl := (fun _ h => HC0.o _ h.2) w hSw;go_simp⟩) hL2 ?_
  simp only [Act.put,zA,zB,zC,zD,zE,zF]
  refine tk (i := 10) (v := .int .i64 (d.S.length : Int)) rfl (Or.inl ⟨by kernel_rfl, fun w hSw => by go_simp⟩) hL2 ?_
  simp only [Act.put,zA,zB,zC,zD,zE,zF]
  change wpAnyH _ _ _ _ _ 3 #[true, true, true, true, true, true, true, true, true, true, true, false, false, false] _ _
  refine rd1 11 rfl fun K hK => ?_
  simp only [zA, zB, zC]
  go_wp2_with fail
  refine (HRI.o _ (hL2).2).mono ?_
  rintro e wx2 ⟨rfl, hfx2⟩
  dsimp only
  refine hK.out _ _ (⟨hfx2.keep (hL2).1 (fun h => h), (hL2).2.then0 hfx2⟩) (fun hL3 => ?_)
  clear hK K hL2
  refine tk0 (i := 12) (v := .bool tt) rfl hL3 ?_
  refine tk0 (i := 13) (v := .bool tt) rfl hL3 ?_
  simp only [Act.put,zA,zB,zC,zD,zE,zF]
  change wpAnyH _ _ _ _ _ 0 #[true, true, true, true, true, true, true, true, true, true, true, true, true, true] _ _
  refine wpAnyH_done (by kernel_rfl) ?_ _
  refine NoPanic.normal ?_
  have HEND := jq7 hL3
  clear hL3
  go_wp2
  go_ret
  exact ⟨by rw [HUQ.o];cases tt <;> rfl, HEND.o.2⟩


end Go.Proofs.YtmkmpfnadcmcoaaGreatDoor.RmRead
namespace Go.Proofs.YtmkmpfnadcmcoaaGreatDoor.RmReads
open Go Go.RowKit K EqKit ArrKit HeldKit GKit GRow DiskKit RmKit MapKit RmRight RmRRight RmTab RmPut RmAsk RmSame DiskRRead RmRead
theorem Z128_len : Z128.length = 128 := by simp [Z128]
theorem lastAt_len {l : List Wri} (h : ∀ x ∈ l, x.ok) {q : Int} {b : List UInt8} (hb : lastAt l q = some b) : b.length = 128 := by
 have key : ∀ (l : List Wri) (r : Option (List UInt8)), (∀ x ∈ l, x.ok) → (∀ y, r = some y → y.length = 128) → ∀ y, l.foldl (fun r x => if x.pos = q then some x.data else r) r = some y → y.length = 128 := by
  intro l
  induction l with
  | nil => intro r _ h2 y hy;exact h2 y hy
  | cons x t ih =>
   intro r h1 h2 y hy
   rw [List.foldl_cons] at hy
   refine ih _ (fun z hz => h1 z (List.mem_cons_of_mem _ hz)) (fun z hz => ?_) y hy
   split at hz
   ·cases hz;exact (h1 x (List.mem_cons_self ..)).len
   ·exact h2 z hz
 exact key l none h (fun y e => by cases e) b hb
theorem tab_len {m : Rm} {s : Int} (h : tabB m s = true) : m.ps.length ≤ 20 := (tab_parts h).2.2.2.1
theorem readX_len {d : Dk} (h : d.ok) (q : Int) : (readX d q).1.length = 128 := by
 unfold readX
 split
 ·exact Z128_len
 ·split
  ·exact Z128_len
  ·split
   ·rename_i x hx
    exact lastAt_len h.c hx
   ·split
    ·exact Z128_len
    ·show (secAt d q).data.length = 128
     unfold secAt
     rw [List.getD_eq_getElem?_getD]
     cases e : d.S[q.toNat]? with
     | none => exact Z128_len
     | some s => exact h.s s (List.mem_of_getElem? e)
def rdX (d : Dk) (m : Rm) (n : Int) : List UInt8 × Int := if askedB d m n = true then readX d (atI m n) else (Z128, 1)
theorem rdX_len {d : Dk} (h : d.ok) (m : Rm) (n : Int) : (rdX d m n).1.length = 128 := by
 unfold rdX
 split
 ·exact readX_len h _
 ·exact Z128_len

theorem rasked_calls (d : Dk) (sa : Option Addr) (sc : Nat) (ca : Option Addr) (cc : Nat) (m : Rm) (a : Option Addr) (c : Nat) (n : Int) (w : World) (hok : d.ok) (hv : DV w d sa sc ca cc) (hm : m.ok) (hr : RV w m a c) (hn : (Lit.int .i64 n).wf = true) : Calls Tryz.prog 72 #[.agg (dval d sa sc ca cc), .agg (rval m a c), .int .i64 n] w fun e w' => e = .returned (.bool (askedB d m n)) ∧ Fr0 w w' := by
 have hs1 : (w.alloc (.cells (dval d sa sc ca cc) 25)).heap.size = w.heap.size + 1 := by simp
 have HX : Jq7 (Bk ((w.alloc (.cells (dval d sa sc ca cc) 25)).alloc (.cells (rval m a c) 28)) w.heap.size (dval d sa sc ca cc) 25) := jq7 (Bk.alloc (Bk.new w _) _)
 have HY : Jq7 (Bk ((w.alloc (.cells (dval d sa sc ca cc) 25)).alloc (.cells (rval m a c) 28)) (w.heap.size + 1) (rval m a c) 28) := jq7 (by have := Bk.new (w.alloc (.cells (dval d sa sc ca cc) 25)) (.cells (rval m a c) 28);rwa [hs1] at this)
 have HF : Jq7 (Fr0 w ((w.alloc (.cells (dval d sa sc ca cc) 25)).alloc (.cells (rval m a c) 28))) := jq7 (Fr.alloc (Fr.alloc (Fr.refl _ _) _) _)
 have HHV : Jq7 (∀ W, Fr0 w W → Calls Tryz.prog 77 #[.agg (dval d sa sc ca cc)] W fun e w' => e = .returned (.int .i64 (hvI d)) ∧ Fr0 W w') := jq7 (fun W f => rhalves_calls d sa sc ca cc W hok (hv.keep f))
 have HUS : Jq7 (∀ W, Calls Tryz.prog 49 #[.int .i64 n, .int .i64 (hvI d)] W fun e w' => e = .returned (.bool (usableB n (hvI d))) ∧ w' = W) := jq7 (fun W => rusable_calls n (hvI d) W hn (hvI_range d))
 have HRI : Jq7 (∀ W, Fr0 w W → Calls Tryz.prog 46 #[.agg (rval m a c), .int .i64 (d.S.length : Int)] W fun e w' => e = .returned (.bool (tabB m (d.S.length : Int))) ∧ Fr0 W w') := jq7 (fun W f => RmRRight.rright_calls m a c _ W hm (hr.keep f) (wf_nat (Nat.le_trans hv.sn hv.sm)))
 have HP0 : Jq7 ((dval d sa sc ca cc)[0]? = some (.slice sa d.S.length sc)) := jq7 rfl
 have HID : Jq7 ((Tryz.prog.info? 25).map (·.size) = some (dval d sa sc ca cc).size) := jq7 info_d
 have HIN : Jq7 ((Tryz.prog.info? 28).map (·.size) = some (rval m a c).size) := jq7 (info_r _ _)
 have HAS : Jq7 (askedB d m n = (decide (0 < hvI d) && tabB m (d.S.length : Int) && usableB n (hvI d))) := jq7 (by
  unfold askedB usableB
  cases decide (0 < hvI d) <;> cases tabB m (d.S.length : Int) <;> simp)
 have hrg := hvI_range d
 rw [HAS.o]
 clear hok hv hm hr hs1 HAS
 generalize rval m a c = Y at *
 generalize (dval d sa sc ca cc) = X at *
 generalize hvI d = h at *
 generalize tabB m (d.S.length : Int) = tt at *
 generalize usableB n h = us at *
 by_cases hh : 0 < h
 ·have e1 : decide (0 < h) = true := decide_eq_true hh
  rw [e1, Bool.true_and]
  cases tt with
  | false =>
   go_enter Tryz.func72, Tryz.ntmps72
   go_wp2_with (first | ((with_reducible show wkq (.load 25 _) _);refine lr 25 w.heap.size X HX.o HID.o ?_) | ((with_reducible show wkq (.load 28 _) _);refine lr 28 (w.heap.size + 1) Y HY1.o HIN.o ?_) | (go_at_call 77;(with_reducible refine (HHV.o _ HF.o).mono ?_);rintro e w1 ⟨rfl, hf1⟩;have HF1 := fq0 HF hf1;have HY1 := kq0 hf1 HY;have c0 : w1.cell? ⟨w.heap.size, 0, none⟩ = some (.slice sa d.S.length sc) := (Bk.cell (hf1.keep HX.o (fun h => h)) 0).trans HP0.o;clear hf1) | (go_at_call 46;(with_reducible refine (HRI.o _ HF1.o).mono ?_);rintro e w2 ⟨rfl, hf2⟩;have HF2 := fq0 HF1 hf2;clear hf2))
   go_ret
   exact ⟨rfl, HF2.o⟩
  | true =>
   go_enter Tryz.func72, Tryz.ntmps72
   go_wp2_with (first | ((with_reducible show wkq (.load 25 _) _);refine lr 25 w.heap.size X HX.o HID.o ?_) | ((with_reducible show wkq (.load 28 _) _);refine lr 28 (w.heap.size + 1) Y HY1.o HIN.o ?_) | (go_at_call 77;(with_reducible refine (HHV.o _ HF.o).mono ?_);rintro e w1 ⟨rfl, hf1⟩;have HF1 := fq0 HF hf1;have HY1 := kq0 hf1 HY;have c0 : w1.cell? ⟨w.heap.size, 0, none⟩ = some (.slice sa d.S.length sc) := (Bk.cell (hf1.keep HX.o (fun h => h)) 0).trans HP0.o;clear hf1) | (go_at_call 46;(with_reducible refine (HRI.o _ HF1.o).mono ?_);rintro e w2 ⟨rfl, hf2⟩;have HF2 := fq0 HF1 hf2;clear hf2) | (go_at_call 49;(with_reducible refine (HUS.o _).mono ?_);rintro e w3 ⟨rfl, rfl⟩))
   go_ret
   exact ⟨by cases us <;> rfl, HF2.o⟩
 ·have e1 : decide (0 < h) = false := decide_eq_false hh
  rw [e1, Bool.false_and, Bool.false_and]
  have hz : h = 0 := by omega
  subst hz
  clear hh e1 hrg
  go_enter Tryz.func72, Tryz.ntmps72
  go_wp2_with (first | ((with_reducible show wkq (.load 25 _) _);refine lr 25 w.heap.size X HX.o HID.o ?_) | (go_at_call 77;(with_reducible refine (HHV.o _ HF.o).mono ?_);rintro e w1 ⟨rfl, hf1⟩;have HF1 := fq0 HF hf1;clear hf1))
  go_ret
  exact ⟨rfl, HF1.o⟩

theorem rmread_calls (p : Nat) (d : Dk) (sa : Option Addr) (sc : Nat) (ca : Option Addr) (cc : Nat) (m : Rm) (a : Option Addr) (c : Nat) (n : Int) (w : World) (hok : d.ok) (hv : DAt w p d sa sc ca cc) (hm : m.ok) (hr : RV w m a c) (hn : (Lit.int .i64 n).wf = true) : Calls Tryz.prog 43 #[.pointer (some ⟨p, 0, none⟩), .agg (rval m a c), .int .i64 n] w fun e w' => e = .returned (readV (rdX d m n)) ∧ Fr0 w w' := by
 have hz := zero_bl
 have hs1 : (w.alloc (.cells (rval m a c) 28)).heap.size = w.heap.size + 1 := by simp
 have HX : Jq7 (Bk ((w.alloc (.cells (rval m a c) 28)).alloc (.cells ZB 36)) w.heap.size (rval m a c) 28) := jq7 (Bk.alloc (Bk.new w _) _)
 have HR : Jq7 (Bk ((w.alloc (.cells (rval m a c) 28)).alloc (.cells ZB 36)) (w.heap.size + 1) ZB 36) := jq7 (by have := Bk.new (w.alloc (.cells (rval m a c) 28)) (.cells ZB 36);rwa [hs1] at this)
 have HF : Jq7 (Fr0 w ((w.alloc (.cells (rval m a c) 28)).alloc (.cells ZB 36))) := jq7 (Fr.alloc (Fr.alloc (Fr.refl _ _) _) _)
 have HAS : Jq7 (∀ W, Fr0 w W → Calls Tryz.prog 58 #[.pointer (some ⟨p, 0, none⟩), .agg (rval m a c), .int .i64 n] W fun e w' => e = .returned (.bool (askedB d m n)) ∧ Fr0 W w') := jq7 (fun W f => asked_calls p d sa sc ca cc m a c n W hok (hv.keep f) hm (hr.keep f) hn)
 have HIN : Jq7 ((Tryz.prog.info? 28).map (·.size) = some (rval m a c).size) := jq7 (info_r _ _)
 have HIX : Jq7 (∀ q, (Tryz.prog.info? 36).map (·.size) = some ((readX d q).1.map B).toArray.size ∧ ZB.size = ((readX d q).1.map B).toArray.size ∧ ((readX d q).1.map B).toArray.all (·.oneCell') = true) := jq7 (fun q => ⟨info_l (readX_len hok q), size_l (readX_len hok q), one_l _⟩)
 have HRE : Jq7 (∀ W q, Fr0 w W → Calls Tryz.prog 67 #[.pointer (some ⟨p, 0, none⟩), .int .i64 q] W fun e w' => e = .returned (.tuple #[.agg ((readX d q).1.map B).toArray, .int .i64 (readX d q).2]) ∧ Fr0 W w') := jq7 (fun W q f => DiskRead.read_calls p q d sa sc ca cc W hok (hv.keep f))
 have HAT : Jq7 (∀ W, m.ps.length ≤ 20 → Fr0 w W → Calls Tryz.prog 59 #[.agg (rval m a c), .int .i64 n] W fun e w' => e = .returned (.int .i64 (atI m n)) ∧ Fr0 W w') := jq7 (fun W h f => at_calls m a c n W (hr.keep f) (by omega))
 have HTL : askedB d m n = true → m.ps.length ≤ 20 := fun h => by
  unfold askedB at h
  rw [Bool.and_eq_true] at h
  exact tab_len h.2
 have HBV := jq7 hv
 unfold rdX readV
 clear hok hm hr hn hs1
 generalize rval m a c = X at *
 cases hask : askedB d m n with
 | false =>
  rw [hask] at HAS
  clear hask HTL
  rw [if_neg (by simp)]
  go_enter Tryz.func43, Tryz.ntmps43
  go_wp2_with (first | ((with_reducible show wkq (.load 28 _) _);refine lr 28 w.heap.size X HX.o HIN.o ?_) | (go_at_call 58;(with_reducible refine (HAS.o _ HF.o).mono ?_);rintro e w1 ⟨rfl, hf1⟩;have HF1 := fq0 HF hf1;have HX1 := kq0 hf1 HX;have HR1 := kq0 hf1 HR;clear hf1) | ((with_reducible show wkq (.build 36 _) _);refine build_ev rfl 36 _ rfl [] (by simp) ZB built_zb ?_) | ((with_reducible show wkq (.store 36 _ _) _);refine wpList_store_row rfl 36 _ _ rfl (w.heap.size + 1) ZB rfl rfl 36 ZB HR1.o info_zb rfl ZB_one ?_))
  refine fin_ct (w.heap.size + 1) 36 ZB (.int .i64 1) (by rfl) (by rfl) (by rfl) (by rfl) Tryz.underlying36 (by rfl) info_zb (ArrKit.Bk.row HR1.o _) ?_
  exact ⟨rfl, ArrKit.Fr.row HF1.o _ _ (.inl (by omega))⟩
 | true =>
  have hlen := HTL hask
  rw [hask] at HAS
  clear hask HTL
  rw [if_pos rfl]
  generalize atI m n = q at *
  go_enter Tryz.func43, Tryz.ntmps43
  go_wp2_with (first | ((with_reducible show wkq (.load 28 _) _);refine lr 28 w.heap.size X HX.o HIN.o ?_) | (go_at_call 58;(with_reducible refine (HAS.o _ HF.o).mono ?_);rintro e w1 ⟨rfl, hf1⟩;have HF1 := fq0 HF hf1;have HX1 := kq0 hf1 HX;have HR1 := kq0 hf1 HR;clear hf1) | ((with_reducible show wkq (.load 28 _) _);refine lr 28 w.heap.size X HX1.o HIN.o ?_) | (go_at_call 59;(with_reducible refine (HAT.o _ hlen HF1.o).mono ?_);rintro e w2 ⟨rfl, hf2⟩;have HF2 := fq0 HF1 hf2;have HR2 := kq0 hf2 HR1;clear hf2) | (go_at_call 67;(with_reducible refine (HRE.o _ _ HF2.o).mono ?_);rintro e w3 ⟨rfl, hf3⟩;have HF3 := fq0 HF2 hf3;have HR3 := kq0 hf3 HR2;clear hf3) | ((with_reducible show wkq (.store 36 _ _) _);refine wpList_store_row rfl 36 _ _ rfl (w.heap.size + 1) ((readX d q).1.map B).toArray rfl rfl 36 ZB HR3.o (HIX.o _).1 (HIX.o _).2.1 (HIX.o _).2.2 ?_))
  refine fin_ct (w.heap.size + 1) 36 ((readX d q).1.map B).toArray (.int .i64 (readX d q).2) (by rfl) (by rfl) (by rfl) (by rfl) Tryz.underlying36 (by rfl) (HIX.o _).1 (ArrKit.Bk.row HR3.o _) ?_
  exact ⟨rfl, ArrKit.Fr.row HF3.o _ _ (.inl (by omega))⟩

theorem rmrread_calls (p : Nat) (d : Dk) (sa : Option Addr) (sc : Nat) (ca : Option Addr) (cc : Nat) (m : Rm) (a : Option Addr) (c : Nat) (n : Int) (w : World) (hok : d.ok) (hv : DAt w p d sa sc ca cc) (hm : m.ok) (hr : RV w m a c) (hn : (Lit.int .i64 n).wf = true) : Calls Tryz.prog 50 #[.pointer (some ⟨p, 0, none⟩), .agg (rval m a c), .int .i64 n] w fun e w' => e = .returned (readV (rdX d m n)) ∧ Fr0 w w' := by
 have hz := zero_bl
 have hs1 : (w.alloc (.cells (rval m a c) 28)).heap.size = w.heap.size + 1 := by simp
 have HX : Jq7 (Bk ((w.alloc (.cells (rval m a c) 28)).alloc (.cells ZB 36)) w.heap.size (rval m a c) 28) := jq7 (Bk.alloc (Bk.new w _) _)
 have HR : Jq7 (Bk ((w.alloc (.cells (rval m a c) 28)).alloc (.cells ZB 36)) (w.heap.size + 1) ZB 36) := jq7 (by have := Bk.new (w.alloc (.cells (rval m a c) 28)) (.cells ZB 36);rwa [hs1] at this)
 have HF : Jq7 (Fr0 w ((w.alloc (.cells (rval m a c) 28)).alloc (.cells ZB 36))) := jq7 (Fr.alloc (Fr.alloc (Fr.refl _ _) _) _)
 have HAS : Jq7 (∀ W, Fr0 w W → Calls Tryz.prog 72 #[.agg (dval d sa sc ca cc), .agg (rval m a c), .int .i64 n] W fun e w' => e = .returned (.bool (askedB d m n)) ∧ Fr0 W w') := jq7 (fun W f => rasked_calls d sa sc ca cc m a c n W hok (hv.v.keep f) hm (hr.keep f) hn)
 have HIN : Jq7 ((Tryz.prog.info? 28).map (·.size) = some (rval m a c).size) := jq7 (info_r _ _)
 have HIX : Jq7 (∀ q, (Tryz.prog.info? 36).map (·.size) = some ((readX d q).1.map B).toArray.size ∧ ZB.size = ((readX d q).1.map B).toArray.size ∧ ((readX d q).1.map B).toArray.all (·.oneCell') = true) := jq7 (fun q => ⟨info_l (readX_len hok q), size_l (readX_len hok q), one_l _⟩)
 have HRE : Jq7 (∀ W q, Fr0 w W → Calls Tryz.prog 73 #[.pointer (some ⟨p, 0, none⟩), .int .i64 q] W fun e w' => e = .returned (.tuple #[.agg ((readX d q).1.map B).toArray, .int .i64 (readX d q).2]) ∧ Fr0 W w') := jq7 (fun W q f => DiskRRead.rread_calls p q d sa sc ca cc W hok (hv.keep f))
 have HAT : Jq7 (∀ W, m.ps.length ≤ 20 → Fr0 w W → Calls Tryz.prog 74 #[.agg (rval m a c), .int .i64 n] W fun e w' => e = .returned (.int .i64 (atI m n)) ∧ Fr0 W w') := jq7 (fun W h f => rat_calls m a c n W (hr.keep f) (by omega))
 have HTL : askedB d m n = true → m.ps.length ≤ 20 := fun h => by
  unfold askedB at h
  rw [Bool.and_eq_true] at h
  exact tab_len h.2
 have HBV := jq7 hv
 unfold rdX readV
 clear hok hm hr hn hs1
 generalize rval m a c = X at *
 cases hask : askedB d m n with
 | false =>
  rw [hask] at HAS
  clear hask HTL
  rw [if_neg (by simp)]
  go_enter Tryz.func50, Tryz.ntmps50
  go_wp2
  refine wp_region_noPanic ?_
  refine wp_region_held_drew (S := (fun W : World => Bk W w.heap.size X 28 ∧ Bk W (w.heap.size + 1) ZB 36 ∧ Fr0 w W)) (by kernel_rfl) (⟨HX.o, HR.o, Fr.drew HF.o⟩) (fun hL0 => ?_)
  refine tk0 (i := 0) (v := .pointer (some ⟨p, 0, none⟩)) rfl hL0 ?_
  refine tk0 (i := 1) (v := .pointer (some ⟨p, 0, none⟩)) rfl hL0 ?_
  simp only [Act.put,zA,zB,zC,zD,zE,zF]
  refine tk (i := 2) (v := .agg (dval d sa sc ca cc)) rfl (yields_row (by kernel_rfl) 25 _ rfl (p) rfl 25 (dval d sa sc ca cc) (0, 0) _ (fun W h => (HBV.o.keep h.2.2).blk) Tryz.underlying25 rfl info_d) hL0 ?_
  refine tk (i := 3) (v := .agg X) rfl (yields_row (by kernel_rfl) 28 _ rfl (w.heap.size) rfl 28 X (0, 0) _ (fun W h => h.1) Tryz.underlying28 rfl HIN.o) hL0 ?_
  simp only [Act.put,zA,zB,zC,zD,zE,zF]
  refine tk0 (i := 4) (v := .int .i64 n) rfl hL0 ?_
  simp only [Act.put,zA,zB,zC,zD,zE,zF]
  change wpAnyH _ _ _ _ _ 2 #[true, true, true, true, true, false, false] _ _
  refine rd1 5 rfl fun K hK => ?_
  simp only [zA, zB, zC]
  go_wp2_with fail
  refine (HAS.o _ (hL0).2.2).mono ?_
  rintro e wx0 ⟨rfl, hfx0⟩
  dsimp only
  refine hK.out _ _ (⟨hfx0.keep (hL0).1 (fun h => h), hfx0.keep (hL0).2.1 (fun h => h), (hL0).2.2.then0 hfx0⟩) (fun hL1 => ?_)
  clear hK K hL0
  refine tk (i := 6) (v := .bool true) rfl (Or.inl ⟨by kernel_rfl, fun w hSw => by go_simp <;> (first | exact beq_iff_eq.1 (by assumption) | exact beq_eq_false_iff_ne.1 (by assumption) | omega)⟩) hL1 ?_
  simp only [Act.put,zA,zB,zC,zD,zE,zF]
  change wpAnyH _ _ _ _ _ 0 #[true, true, true, true, true, true, true] _ _
  refine wpAnyH_done (by kernel_rfl) ?_ _
  refine NoPanic.normal ?_
  have HEND := jq7 hL1
  clear hL1
  have HF1 : Jq7 (Fr0 w wx0) := jq7 HEND.o.2.2
  have HX1 : Jq7 (Bk wx0 w.heap.size X 28) := jq7 HEND.o.1
  have HR1 : Jq7 (Bk wx0 (w.heap.size + 1) ZB 36) := jq7 HEND.o.2.1
  go_wp2_with (first | ((with_reducible show wkq (.build 36 _) _);refine build_ev rfl 36 _ rfl [] (by simp) ZB built_zb ?_) | ((with_reducible show wkq (.store 36 _ _) _);refine wpList_store_row rfl 36 _ _ rfl (w.heap.size + 1) ZB rfl rfl 36 ZB HR1.o info_zb rfl ZB_one ?_))
  refine fin_ct (w.heap.size + 1) 36 ZB (.int .i64 1) (by rfl) (by rfl) (by rfl) (by rfl) Tryz.underlying36 (by rfl) info_zb (ArrKit.Bk.row HR1.o _) ?_
  exact ⟨rfl, ArrKit.Fr.row HF1.o _ _ (.inl (by omega))⟩
 | true =>
  have hlen := HTL hask
  rw [hask] at HAS
  clear hask HTL
  rw [if_pos rfl]
  generalize atI m n = q at *
  go_enter Tryz.func50, Tryz.ntmps50
  go_wp2
  refine wp_region_noPanic ?_
  refine wp_region_held_drew (S := (fun W : World => Bk W w.heap.size X 28 ∧ Bk W (w.heap.size + 1) ZB 36 ∧ Fr0 w W)) (by kernel_rfl) (⟨HX.o, HR.o, Fr.drew HF.o⟩) (fun hL0 => ?_)
  refine tk0 (i := 0) (v := .pointer (some ⟨p, 0, none⟩)) rfl hL0 ?_
  refine tk0 (i := 1) (v := .pointer (some ⟨p, 0, none⟩)) rfl hL0 ?_
  simp only [Act.put,zA,zB,zC,zD,zE,zF]
  refine tk (i := 2) (v := .agg (dval d sa sc ca cc)) rfl (yields_row (by kernel_rfl) 25 _ rfl (p) rfl 25 (dval d sa sc ca cc) (0, 0) _ (fun W h => (HBV.o.keep h.2.2).blk) Tryz.underlying25 rfl info_d) hL0 ?_
  refine tk (i := 3) (v := .agg X) rfl (yields_row (by kernel_rfl) 28 _ rfl (w.heap.size) rfl 28 X (0, 0) _ (fun W h => h.1) Tryz.underlying28 rfl HIN.o) hL0 ?_
  simp only [Act.put,zA,zB,zC,zD,zE,zF]
  refine tk0 (i := 4) (v := .int .i64 n) rfl hL0 ?_
  simp only [Act.put,zA,zB,zC,zD,zE,zF]
  change wpAnyH _ _ _ _ _ 2 #[true, true, true, true, true, false, false] _ _
  refine rd1 5 rfl fun K hK => ?_
  simp only [zA, zB, zC]
  go_wp2_with fail
  refine (HAS.o _ (hL0).2.2).mono ?_
  rintro e wx0 ⟨rfl, hfx0⟩
  dsimp only
  refine hK.out _ _ (⟨hfx0.keep (hL0).1 (fun h => h), hfx0.keep (hL0).2.1 (fun h => h), (hL0).2.2.then0 hfx0⟩) (fun hL1 => ?_)
  clear hK K hL0
  refine tk (i := 6) (v := .bool false) rfl (Or.inl ⟨by kernel_rfl, fun w hSw => by go_simp <;> (first | exact beq_iff_eq.1 (by assumption) | exact beq_eq_false_iff_ne.1 (by assumption) | omega)⟩) hL1 ?_
  simp only [Act.put,zA,zB,zC,zD,zE,zF]
  change wpAnyH _ _ _ _ _ 0 #[true, true, true, true, true, true, true] _ _
  refine wpAnyH_done (by kernel_rfl) ?_ _
  refine NoPanic.normal ?_
  have HEND := jq7 hL1
  clear hL1
  have HF1 : Jq7 (Fr0 w wx0) := jq7 HEND.o.2.2
  have HX1 : Jq7 (Bk wx0 w.heap.size X 28) := jq7 HEND.o.1
  have HR1 : Jq7 (Bk wx0 (w.heap.size + 1) ZB 36) := jq7 HEND.o.2.1
  go_wp2_with (first | ((with_reducible show wkq (.load 28 _) _);refine lr 28 w.heap.size X HX1.o HIN.o ?_) | (go_at_call 74;(with_reducible refine (HAT.o _ hlen HF1.o).mono ?_);rintro e w2 ⟨rfl, hf2⟩;have HF2 := fq0 HF1 hf2;have HR2 := kq0 hf2 HR1;clear hf2) | (go_at_call 73;(with_reducible refine (HRE.o _ _ HF2.o).mono ?_);rintro e w3 ⟨rfl, hf3⟩;have HF3 := fq0 HF2 hf3;have HR3 := kq0 hf3 HR2;clear hf3) | ((with_reducible show wkq (.store 36 _ _) _);refine wpList_store_row rfl 36 _ _ rfl (w.heap.size + 1) ((readX d q).1.map B).toArray rfl rfl 36 ZB HR3.o (HIX.o _).1 (HIX.o _).2.1 (HIX.o _).2.2 ?_))
  refine fin_ct (w.heap.size + 1) 36 ((readX d q).1.map B).toArray (.int .i64 (readX d q).2) (by rfl) (by rfl) (by rfl) (by rfl) Tryz.underlying36 (by rfl) (HIX.o _).1 (ArrKit.Bk.row HR3.o _) ?_
  exact ⟨rfl, ArrKit.Fr.row HF3.o _ _ (.inl (by omega))⟩

end Go.Proofs.YtmkmpfnadcmcoaaGreatDoor.RmReads
