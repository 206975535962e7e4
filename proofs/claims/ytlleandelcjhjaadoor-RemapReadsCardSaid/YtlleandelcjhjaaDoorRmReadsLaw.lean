/- RemapReads, walked. -/
import Derived.Test.YtlleandelcjhjaaDoorRmGreat
import Derived.Test.YtlleandelcjhjaaDoorDiskTwins
import Derived.Test.YtlleandelcjhjaaDoorDiskSameB
import Derived.Test.YtlleandelcjhjaaDoorEqlKit
set_option maxRecDepth 100000
set_option linter.unusedVariables false
set_option linter.unusedSimpArgs false
namespace Go.Proofs.YtlleandelcjhjaaDoor.RmReadsLaw
open Go Go.RowKit Go.Proofs.YtlleandelcjhjaaDoor.K Go.Proofs.YtlleandelcjhjaaDoor.EqKit Go.Proofs.YtlleandelcjhjaaDoor.ArrKit Go.Proofs.YtlleandelcjhjaaDoor.HeldKit Go.Proofs.YtlleandelcjhjaaDoor.GKit Go.Proofs.YtlleandelcjhjaaDoor.GRow Go.Proofs.YtlleandelcjhjaaDoor.DiskKit Go.Proofs.YtlleandelcjhjaaDoor.RmKit Go.Proofs.YtlleandelcjhjaaDoor.MapKit Go.Proofs.YtlleandelcjhjaaDoor.DiskNew Go.Proofs.YtlleandelcjhjaaDoor.RmRight Go.Proofs.YtlleandelcjhjaaDoor.RmRRight Go.Proofs.YtlleandelcjhjaaDoor.RmTab Go.Proofs.YtlleandelcjhjaaDoor.RmPut Go.Proofs.YtlleandelcjhjaaDoor.RmRPut Go.Proofs.YtlleandelcjhjaaDoor.RmAsk Go.Proofs.YtlleandelcjhjaaDoor.RmSame Go.Proofs.YtlleandelcjhjaaDoor.DiskCopy Go.Proofs.YtlleandelcjhjaaDoor.DiskTwins Go.Proofs.YtlleandelcjhjaaDoor.DiskSame Go.Proofs.YtlleandelcjhjaaDoor.DiskSameB Go.Proofs.YtlleandelcjhjaaDoor.DiskRRead Go.Proofs.YtlleandelcjhjaaDoor.RmRead Go.Proofs.YtlleandelcjhjaaDoor.RmReads Go.Proofs.YtlleandelcjhjaaDoor.RmAlive Go.Proofs.YtlleandelcjhjaaDoor.RmGreat Go.Proofs.YtlleandelcjhjaaDoor.EqlKit

set_option maxHeartbeats 2000000 in
set_option maxRecDepth 100000 in
theorem rmreads_all (m : Rm) (a : Option Addr) (c : Nat) (d : Dk) (sa : Option Addr) (sc : Nat) (ca : Option Addr) (cc : Nat) (n : Int) (w : World) (hok : d.ok) (hv : DV w d sa sc ca cc) (hS : d.S.length * 130 ≤ 140737488355328) (hC : d.C.length * 136 ≤ 140737488355328) (hm : m.ok) (hr : RV w m a c) (hn : (Lit.int .i64 n).wf = true) (hsh : Sh w) : Calls Tryd.prog 4 #[.agg (dval d sa sc ca cc), .agg (rval m a c), .int .i64 n] w fun e w' => e = .returned (.bool true) ∧ Fr0 w w' := by
  have HV := Lib.hid hv
  have HR := Lib.hid hr
  have HSH := Lib.hid hsh
  have hs1 : (w.alloc (.cells (dval d sa sc ca cc) 39)).heap.size = w.heap.size + 1 := by simp
  have HX0 : Hid (Bk ((w.alloc (.cells (dval d sa sc ca cc) 39)).alloc (.cells (rval m a c) 24)) w.heap.size (dval d sa sc ca cc) 39) := Lib.hid (Bk.alloc (Bk.new w _) _)
  have HY0 : Hid (Bk ((w.alloc (.cells (dval d sa sc ca cc) 39)).alloc (.cells (rval m a c) 24)) (w.heap.size + 1) (rval m a c) 24) := Lib.hid (by have := Bk.new (w.alloc (.cells (dval d sa sc ca cc) 39)) (.cells (rval m a c) 24); rwa [hs1] at this)
  have HF0 : Hid (Fr0 w ((w.alloc (.cells (dval d sa sc ca cc) 39)).alloc (.cells (rval m a c) 24))) := Lib.hid (Fr.alloc (Fr.alloc (Fr.refl _ _) _) _)
  have HAL : Hid (∀ W, Fr0 w W → Calls Tryd.prog 9 #[] W fun e w' => e = .returned (.bool true) ∧ Fr0 W w') := Lib.hid (fun W f => alive_calls W (hsh.keep0 f))
  have HGR : Hid (∀ W, Fr0 w W → Calls Tryd.prog 20 #[.agg (dval d sa sc ca cc)] W fun e w' => e = .returned (.bool (decide (300 < d.C.length))) ∧ Fr0 W w') := Lib.hid (fun W f => great_calls d sa sc ca cc W (hv.keep f))
  have HDC : Hid (∀ W, Fr0 w W → Calls Tryd.prog 21 #[.agg (dval d sa sc ca cc)] W fun e w' => ∃ sa' sc' ca' cc', e = .returned (.agg (dval d sa' sc' ca' cc')) ∧ DV w' d sa' sc' ca' cc' ∧ Fr0 W w') := Lib.hid (fun W f => copy_calls d sa sc ca cc W hok (hv.keep f) hS hC)
  have HRE : Hid (∀ p W sa sc ca cc, Fr0 w W → DAt W p d sa sc ca cc → Calls Tryd.prog 22 #[.pointer (some ⟨p, 0, none⟩), .agg (rval m a c), .int .i64 n] W fun e w' => e = .returned (readV (rdX d m n)) ∧ Fr0 W w') := Lib.hid (fun p W sa sc ca cc f h => rmread_calls p d sa sc ca cc m a c n W hok h hm (hr.keep f) hn)
  have HRR : Hid (∀ p W sa sc ca cc, Fr0 w W → DAt W p d sa sc ca cc → Calls Tryd.prog 23 #[.pointer (some ⟨p, 0, none⟩), .agg (rval m a c), .int .i64 n] W fun e w' => e = .returned (readV (rdX d m n)) ∧ Fr0 W w') := Lib.hid (fun p W sa sc ca cc f h => rmrread_calls p d sa sc ca cc m a c n W hok h hm (hr.keep f) hn)
  have HSM : Hid (∀ W y1 y2 y3 y4 z1 z2 z3 z4, DV W d y1 y2 y3 y4 → DV W d z1 z2 z3 z4 → Calls Tryd.prog 24 #[.agg (dval d y1 y2 y3 y4), .agg (dval d z1 z2 z3 z4)] W fun e w' => e = .returned (.bool true) ∧ Fr0 W w') := Lib.hid (fun W _ _ _ _ _ _ _ _ h h' => same_calls _ _ _ _ _ _ _ _ _ W hok h h')
  have HOK := Lib.hid hok
  have HID : Hid (∀ a b c e, (Tryd.prog.info? 39).map (·.size) = some (dval d a b c e).size) := Lib.hid (fun _ _ _ _ => info_d)
  have HDO : Hid (∀ a b c e, (dval d a b c e).all (·.oneCell') = true) := Lib.hid (fun _ _ _ _ => dval_one _ _ _ _ _)
  have HIR : Hid (∀ a c, (Tryd.prog.info? 24).map (·.size) = some (rval m a c).size) := Lib.hid (fun _ _ => info_r _ _)
  have hl : (rdX d m n).1.length = 128 := rdX_len hok m n
  have HIL := Lib.hid (info_l hl)
  have HSL := Lib.hid (size_l hl)
  have HOL := Lib.hid (one_l (rdX d m n).1)
  have HEB : Hid (∀ W, (Op.equalIn 10000 27 (.agg ((rdX d m n).1.map B).toArray) (.agg ((rdX d m n).1.map B).toArray)).run Tryd.prog W = .ok true W) := Lib.hid (fun W => by
    have := eq_bytes (P := Tryd.prog) Tryd.underlying27 Tryd.underlying5 (by kernel_rfl) (by kernel_rfl) (by kernel_rfl) (rdX d m n).1 (rdX d m n).1 hl hl W
    rwa [decide_eq_true rfl] at this)
  have hzd : ∀ W, (zeroValue 39).run Tryd.prog W = .ok (.agg DZ) W := by intro W; kernel_rfl
  have hzb := zero_bl
  unfold readV at HRE HRR
  generalize ((rdX d m n).1.map B).toArray = L at *
  generalize (rdX d m n).2 = ee at *
  have hee : (ee == ee) = true := beq_self_eq_true _
  clear hs1 hv hr hsh hok hm hn hl hS hC
  cases hg : decide (300 < d.C.length) with
  | true =>
    rw [hg] at HGR
    clear hg
    go_enter Tryd.func4, Tryd.ntmps4
    go_wp2_with (first | (go_at_call 9; (with_reducible refine (HAL.out _ HF0.out).mono ?_); rintro e w1 ⟨rfl, hf1⟩; have HF1 := Lib.hid (HF0.out.then0 hf1); have HX1 := Lib.hid (hf1.keep HX0.out (fun h => h)); have HY1 := Lib.hid (hf1.keep HY0.out (fun h => h)); clear hf1) | ((with_reducible show wpList _ _ _ ({ dst := _, op := Op.load 39 _, type := _, pos := _, after := _, guard := _ } :: _) _ _); refine wpList_load_row_g (by rfl) 39 _ rfl w.heap.size rfl 39 _ (0, 0) _ HX1.out Tryd.underlying39 rfl (HID.out _ _ _ _) ?_) | (go_at_call 20; (with_reducible refine (HGR.out _ HF1.out).mono ?_); rintro e w2 ⟨rfl, hf2⟩; have HF2 := Lib.hid (HF1.out.then0 hf2); have HX2 := Lib.hid (hf2.keep HX1.out (fun h => h)); have HY2 := Lib.hid (hf2.keep HY1.out (fun h => h)); clear hf2))
    go_ret
    exact ⟨rfl, HF2.out⟩
  | false =>
    rw [hg] at HGR
    clear hg
    go_enter Tryd.func4, Tryd.ntmps4
    go_wp2_with (first | (go_at_call 9; (with_reducible refine (HAL.out _ HF0.out).mono ?_); rintro e w1 ⟨rfl, hf1⟩; have HF1 := Lib.hid (HF0.out.then0 hf1); have HX1 := Lib.hid (hf1.keep HX0.out (fun h => h)); have HY1 := Lib.hid (hf1.keep HY0.out (fun h => h)); clear hf1) | ((with_reducible show wpList _ _ _ ({ dst := _, op := Op.load 39 _, type := _, pos := _, after := _, guard := _ } :: _) _ _); refine wpList_load_row_g (by rfl) 39 _ rfl w.heap.size rfl 39 _ (0, 0) _ HX1.out Tryd.underlying39 rfl (HID.out _ _ _ _) ?_) | (go_at_call 20; (with_reducible refine (HGR.out _ HF1.out).mono ?_); rintro e w2 ⟨rfl, hf2⟩; have HF2 := Lib.hid (HF1.out.then0 hf2); have HX2 := Lib.hid (hf2.keep HX1.out (fun h => h)); have HY2 := Lib.hid (hf2.keep HY1.out (fun h => h)); clear hf2))
    rename_i K hKA
    have HREST : Hid (∀ (W : World) (pA pB : Nat) s1 n1 c1 m1 s2 n2 c2 m2, Fr (fun _ => False) w2 W → DAt W pA d s1 n1 c1 m1 → DAt W pB d s2 n2 c2 m2 → pA ≠ pB → w2.heap.size ≤ pA → w2.heap.size ≤ pB → K { tmps := #[Value.agg (dval d sa sc ca cc), Value.agg (rval m a c), Value.int IntKind.i64 n, Value.pointer (some ⟨w.heap.size, 0, none⟩), Value.pointer (some ⟨w.heap.size + 1, 0, none⟩), undef, Value.bool false, .pointer (some ⟨pA, 0, none⟩), .pointer (some ⟨pB, 0, none⟩), undef, undef, undef, undef, Value.bool true, Value.bool false, Value.agg (dval d sa sc ca cc), Value.bool false, .agg (dval d sa sc ca cc), .agg (dval d s1 n1 c1 m1), .agg (dval d sa sc ca cc), .agg (dval d s2 n2 c2 m2), undef, undef, undef, undef, undef, undef, undef, undef, undef, undef, undef, undef, undef, undef, undef, undef, undef, undef, undef, undef, undef, undef, undef, undef, undef], defers := [] } W) := Lib.hid (by
      intro W pA pB s1 n1 c1 m1 s2 n2 c2 m2 hf hp hq hpq hlo hlo2
      refine hKA _ _ ?_
      have HP3 := Lib.hid hp
      have HQ3 := Lib.hid hq
      have HF3 : Hid (Fr0 w W) := Lib.hid (HF2.out.then0 hf)
      have HX3 := Lib.hid (hf.keep HX2.out (fun h => h))
      have HY3 := Lib.hid (hf.keep HY2.out (fun h => h))
      clear hf hp hq
      go_wp2_with (first | ((with_reducible show wpList _ _ _ ({ dst := _, op := Op.load 24 _, type := _, pos := _, after := _, guard := _ } :: _) _ _); refine wpList_load_row_g (by rfl) 24 _ rfl (w.heap.size + 1) rfl 24 _ (0, 0) _ HY5.out Tryd.underlying24 rfl (HIR.out _ _) ?_) | ((with_reducible show wpList _ _ _ ({ dst := _, op := Op.load 24 _, type := _, pos := _, after := _, guard := _ } :: _) _ _); refine wpList_load_row_g (by rfl) 24 _ rfl (w.heap.size + 1) rfl 24 _ (0, 0) _ HY3.out Tryd.underlying24 rfl (HIR.out _ _) ?_) | (go_at_call 22; (with_reducible refine (HRE.out _ _ _ _ _ _ HF3.out HP3.out).mono ?_); rintro e w4 ⟨rfl, hf⟩; have HZw4 := Lib.hid (Bk.new w4 (.cells ZB 27)); have hfx : Fr0 _ ((w4.alloc (.cells ZB 27)).setRow w4.heap.size L) := hf.then0 (ArrKit.Fr.row (Fr.alloc (Fr.refl _ _) _) _ _ (.inl (Nat.le_refl _))); have HF5 := Lib.hid (HF3.out.then0 hfx); have HX5 := Lib.hid (hfx.keep HX3.out (fun h => h)); have HY5 := Lib.hid (hfx.keep HY3.out (fun h => h)); have HP5 := Lib.hid (DAt.keep HP3.out hfx); have HQ5 := Lib.hid (DAt.keep HQ3.out hfx); have HT5 : Hid (Bk ((w4.alloc (.cells ZB 27)).setRow w4.heap.size L) w4.heap.size L 27) := Lib.hid (ArrKit.Bk.row HZw4.out _); clear hfx hf) | ((with_reducible show wpList _ _ _ ({ dst := _, op := Op.store 27 _ _, type := _, pos := _, after := _, guard := _ } :: _) _ _); refine wpList_store_row rfl 27 _ _ rfl w4.heap.size L rfl rfl 27 ZB HZw4.out HIL.out HSL.out HOL.out ?_) | (go_at_call 23; (with_reducible refine (HRR.out _ _ _ _ _ _ HF5.out HQ5.out).mono ?_); rintro e w6 ⟨rfl, hf⟩; have HZw6 := Lib.hid (Bk.new w6 (.cells ZB 27)); have hfx : Fr0 _ ((w6.alloc (.cells ZB 27)).setRow w6.heap.size L) := hf.then0 (ArrKit.Fr.row (Fr.alloc (Fr.refl _ _) _) _ _ (.inl (Nat.le_refl _))); have HF7 := Lib.hid (HF5.out.then0 hfx); have HX7 := Lib.hid (hfx.keep HX5.out (fun h => h)); have HY7 := Lib.hid (hfx.keep HY5.out (fun h => h)); have HT7 := Lib.hid (hfx.keep HT5.out (fun h => h)); have HP7 := Lib.hid (DAt.keep HP5.out hfx); have HQ7 := Lib.hid (DAt.keep HQ5.out hfx); have HU7 : Hid (Bk ((w6.alloc (.cells ZB 27)).setRow w6.heap.size L) w6.heap.size L 27) := Lib.hid (ArrKit.Bk.row HZw6.out _); clear hfx hf) | ((with_reducible show wpList _ _ _ ({ dst := _, op := Op.store 27 _ _, type := _, pos := _, after := _, guard := _ } :: _) _ _); refine wpList_store_row rfl 27 _ _ rfl w6.heap.size L rfl rfl 27 ZB HZw6.out HIL.out HSL.out HOL.out ?_) | ((with_reducible show wpList _ _ _ ({ dst := _, op := Op.load 27 _, type := _, pos := _, after := _, guard := _ } :: _) _ _); refine wpList_load_row_g (by rfl) 27 _ rfl w4.heap.size rfl 27 _ (0, 0) _ HT7.out Tryd.underlying27 rfl HIL.out ?_) | ((with_reducible show wpList _ _ _ ({ dst := _, op := Op.load 27 _, type := _, pos := _, after := _, guard := _ } :: _) _ _); refine wpList_load_row_g (by rfl) 27 _ rfl w6.heap.size rfl 27 _ (0, 0) _ HU7.out Tryd.underlying27 rfl HIL.out ?_) | ((with_reducible show wpList _ _ _ ({ dst := _, op := Op.binOp .eql 27 _ _ _, type := _, pos := _, after := _, guard := _ } :: _) _ _); refine wpList_eql_g (by rfl) rfl rfl rfl guard_b HEB.out ?_) | ((with_reducible show wpList _ _ _ ({ dst := _, op := Op.load 39 _, type := _, pos := _, after := _, guard := _ } :: _) _ _); refine wpList_load_row_g (by rfl) 39 _ rfl pA rfl 39 _ (0, 0) _ HP7.out.blk Tryd.underlying39 rfl (HID.out _ _ _ _) ?_) | ((with_reducible show wpList _ _ _ ({ dst := _, op := Op.load 39 _, type := _, pos := _, after := _, guard := _ } :: _) _ _); refine wpList_load_row_g (by rfl) 39 _ rfl w.heap.size rfl 39 _ (0, 0) _ HX7.out Tryd.underlying39 rfl (HID.out _ _ _ _) ?_) | (go_at_call 24; (with_reducible refine (HSM.out _ _ _ _ _ _ _ _ _ HP7.out.v (HV.out.keep HF7.out)).mono ?_); rintro e w8 ⟨rfl, hf8⟩; have HF8 := Lib.hid (HF7.out.then0 hf8); clear hf8))
      go_ret
      exact ⟨rfl, HF8.out⟩
      )
    clear hKA
    refine wp_region_noPanic ?_
    refine wp_region_held_drew (S := (fun W : World => Fr (fun _ => False) w2 W)) (by kernel_rfl) (Fr.drew (Fr.refl _ _)) (fun hHeld0 => ?_)
    generalize w2.drew = wd at *
    change wpAnyH _ _ _ _ _ 8 #[false, false, false, false, false, false, false, false] _ _
    refine wpAnyH_take (i := 0) (v := .agg (dval d sa sc ca cc)) rfl (by kernel_rfl) (by kernel_rfl) (by kernel_rfl) (fun _ _ _ h => h) (yields_row (by kernel_rfl) 39 _ rfl (w.heap.size) rfl 39 (dval d sa sc ca cc) (0, 0) _ (fun _ h => Fr.keep h HX2.out (fun h => h)) Tryd.underlying39 rfl (HID.out _ _ _ _)) hHeld0 ?_
    simp only [Act.put, List.getElem_toArray, List.getElem_cons_succ, List.getElem_cons_zero, List.setIfInBounds_toArray, List.set_cons_zero, List.set_cons_succ]
    change wpAnyH _ _ _ _ _ 7 #[true, false, false, false, false, false, false, false] _ _
    refine wpAnyH_take (i := 2) (v := .agg (dval d sa sc ca cc)) rfl (by kernel_rfl) (by kernel_rfl) (by kernel_rfl) (fun _ _ _ h => h) (yields_row (by kernel_rfl) 39 _ rfl (w.heap.size) rfl 39 (dval d sa sc ca cc) (0, 0) _ (fun _ h => Fr.keep h HX2.out (fun h => h)) Tryd.underlying39 rfl (HID.out _ _ _ _)) hHeld0 ?_
    simp only [Act.put, List.getElem_toArray, List.getElem_cons_succ, List.getElem_cons_zero, List.setIfInBounds_toArray, List.set_cons_zero, List.set_cons_succ]
    change wpAnyH _ _ _ _ _ 6 #[true, false, true, false, false, false, false, false] _ _
    refine wpAnyH_ready (rs := [1, 4, 5]) (by kernel_rfl) (by simp) ?_
    refine AllReadyH.cons rfl (fun K hK => ?_) (AllReadyH.cons rfl (fun K hK => ?_) (AllReadyH.cons rfl (fun K hK => ?_) (AllReadyH.nil)))
    · simp only [List.getElem_toArray, List.getElem_cons_succ, List.getElem_cons_zero]
      refine (if_pos (by kernel_rfl)).mpr ?_
      go_wp2_with fail
      refine (HDC.out _ (HF2.out.then0 hHeld0)).mono ?_
      rintro e wx0 ⟨s1, n1, c1, m1, rfl, hown0, hfx0⟩
      dsimp only
      have HO0 := Lib.hid hown0
      clear hown0
      refine hK.out _ _ (hHeld0.then0 hfx0) (fun hHeld1 => ?_)
      clear hK K hHeld0
      clear hfx0
      change wpAnyH _ _ _ _ _ 5 #[true, true, true, false, false, false, false, false] _ _
      refine wpAnyH_ready (rs := [3, 4, 5]) (by kernel_rfl) (by simp) ?_
      refine AllReadyH.cons rfl (fun K hK => ?_) (AllReadyH.cons rfl (fun K hK => ?_) (AllReadyH.cons rfl (fun K hK => ?_) (AllReadyH.nil)))
      · simp only [List.getElem_toArray, List.getElem_cons_succ, List.getElem_cons_zero]
        refine (if_pos (by kernel_rfl)).mpr ?_
        go_wp2_with fail
        refine (HDC.out _ (HF2.out.then0 hHeld1)).mono ?_
        rintro e wx1 ⟨s2, n2, c2, m2, rfl, hown1, hfx1⟩
        dsimp only
        have HO0' := Lib.hid (DV.keep HO0.out hfx1)
        clear HO0
        have HO0 := HO0'
        clear HO0'
        have HO1 := Lib.hid hown1
        clear hown1
        refine hK.out _ _ (hHeld1.then0 hfx1) (fun hHeld2 => ?_)
        clear hK K hHeld1
        clear hfx1
        change wpAnyH _ _ _ _ _ 4 #[true, true, true, true, false, false, false, false] _ _
        refine wpAnyH_ready (rs := [4, 5]) (by kernel_rfl) (by simp) ?_
        refine AllReadyH.cons rfl (fun K hK => ?_) (AllReadyH.cons rfl (fun K hK => ?_) (AllReadyH.nil))
        · simp only [List.getElem_toArray, List.getElem_cons_succ, List.getElem_cons_zero]
          refine (if_pos (by kernel_rfl)).mpr ?_
          go_wp2_with fail
          have hfx2 : Fr (fun _ => False) wx1 (wx1.alloc (.cells DZ 39)) := Fr.alloc (Fr.refl _ _) _
          have HLO0 : Hid (w2.heap.size ≤ wx1.heap.size) := Lib.hid (Fr.size hHeld2)
          have HO0' := Lib.hid (DV.keep HO0.out hfx2)
          clear HO0
          have HO0 := HO0'
          clear HO0'
          have HO1' := Lib.hid (DV.keep HO1.out hfx2)
          clear HO1
          have HO1 := HO1'
          clear HO1'
          have HZ0 : Hid (Bk (wx1.alloc (.cells DZ 39)) wx1.heap.size DZ 39) := Lib.hid (Bk.new wx1 _)
          have HB0 : Hid (wx1.heap.size < (wx1.alloc (.cells DZ 39)).heap.size) := Lib.hid (Bk.lt HZ0.out)
          refine hK.out _ _ (hHeld2.then0 hfx2) (fun hHeld3 => ?_)
          clear hK K hHeld2
          clear hfx2
          generalize wx1.heap.size = pA at *
          generalize (wx1.alloc (.cells DZ 39)) = wx2 at *
          change wpAnyH _ _ _ _ _ 3 #[true, true, true, true, true, false, false, false] _ _
          refine wpAnyH_ready (rs := [5]) (by kernel_rfl) (by simp) ?_
          refine AllReadyH.cons rfl (fun K hK => ?_) AllReadyH.nil
          simp only [List.getElem_toArray, List.getElem_cons_succ, List.getElem_cons_zero]
          refine (if_pos (by kernel_rfl)).mpr ?_
          go_wp2_with fail
          have hfx3 : Fr (fun _ => False) wx2 (wx2.alloc (.cells DZ 39)) := Fr.alloc (Fr.refl _ _) _
          have HLO1 : Hid (w2.heap.size ≤ wx2.heap.size) := Lib.hid (Fr.size hHeld3)
          have HPQ : Hid (pA ≠ wx2.heap.size) := Lib.hid (by have h1 := Bk.lt HZ0.out; omega)
          have HO0' := Lib.hid (DV.keep HO0.out hfx3)
          clear HO0
          have HO0 := HO0'
          clear HO0'
          have HO1' := Lib.hid (DV.keep HO1.out hfx3)
          clear HO1
          have HO1 := HO1'
          clear HO1'
          have HZ0' := Lib.hid (hfx3.keep HZ0.out (fun h => h))
          clear HZ0
          have HZ0 := HZ0'
          clear HZ0'
          have HZ1 : Hid (Bk (wx2.alloc (.cells DZ 39)) wx2.heap.size DZ 39) := Lib.hid (Bk.new wx2 _)
          have HB1 : Hid (wx2.heap.size < (wx2.alloc (.cells DZ 39)).heap.size) := Lib.hid (Bk.lt HZ1.out)
          have HB0' : Hid (pA < (wx2.alloc (.cells DZ 39)).heap.size) := Lib.hid (Bk.lt HZ0.out)
          clear HB0
          have HB0 := HB0'
          clear HB0'
          refine hK.out _ _ (hHeld3.then0 hfx3) (fun hHeld4 => ?_)
          clear hK K hHeld3
          clear hfx3
          generalize wx2.heap.size = pB at *
          generalize (wx2.alloc (.cells DZ 39)) = wx3 at *
          change wpAnyH _ _ _ _ _ 2 #[true, true, true, true, true, true, false, false] _ _
          refine wpAnyH_ready (rs := [6]) (by kernel_rfl) (by simp) ?_
          refine AllReadyH.cons rfl (fun K hK => ?_) AllReadyH.nil
          simp only [List.getElem_toArray, List.getElem_cons_succ, List.getElem_cons_zero]
          refine (if_pos (by kernel_rfl)).mpr ?_
          refine wp_store_row 39 _ _ rfl pA (dval d s1 n1 c1 m1) rfl rfl 39 DZ HZ0.out (HID.out _ _ _ _) rfl (HDO.out _ _ _ _) ?_
          have hfx4 := Fr.row1 wx3 pA (dval d s1 n1 c1 m1)
          have HO0' := Lib.hid (DV.past HO0.out HOK.out hfx4 HZ0.out DZ_no)
          clear HO0
          have HO0 := HO0'
          clear HO0'
          have HO1' := Lib.hid (DV.past HO1.out HOK.out hfx4 HZ0.out DZ_no)
          clear HO1
          have HO1 := HO1'
          clear HO1'
          have HZ1' := Lib.hid ((show Bk (wx3.setRow pA (dval d s1 n1 c1 m1)) pB DZ 39 from ArrKit.Bk.rowOther HZ1.out _ (HPQ.out.symm)))
          clear HZ1
          have HZ1 := HZ1'
          clear HZ1'
          have HX0' : Hid (Bk (wx3.setRow pA (dval d s1 n1 c1 m1)) pA (dval d s1 n1 c1 m1) 39) := Lib.hid (ArrKit.Bk.row HZ0.out _)
          clear HZ0
          have HZ0 := HX0'
          clear HX0'
          refine hK.out _ _ (ArrKit.Fr.row hHeld4 _ _ (.inl HLO0.out)) (fun hHeld5 => ?_)
          clear hK K hHeld4
          clear hfx4
          generalize (wx3.setRow pA (dval d s1 n1 c1 m1)) = wx4 at *
          change wpAnyH _ _ _ _ _ 1 #[true, true, true, true, true, true, true, false] _ _
          refine wpAnyH_ready (rs := [7]) (by kernel_rfl) (by simp) ?_
          refine AllReadyH.cons rfl (fun K hK => ?_) AllReadyH.nil
          simp only [List.getElem_toArray, List.getElem_cons_succ, List.getElem_cons_zero]
          refine (if_pos (by kernel_rfl)).mpr ?_
          refine wp_store_row 39 _ _ rfl pB (dval d s2 n2 c2 m2) rfl rfl 39 DZ HZ1.out (HID.out _ _ _ _) rfl (HDO.out _ _ _ _) ?_
          have hfx5 := Fr.row1 wx4 pB (dval d s2 n2 c2 m2)
          have HO0' := Lib.hid (DV.past HO0.out HOK.out hfx5 HZ1.out DZ_no)
          clear HO0
          have HO0 := HO0'
          clear HO0'
          have HO1' := Lib.hid (DV.past HO1.out HOK.out hfx5 HZ1.out DZ_no)
          clear HO1
          have HO1 := HO1'
          clear HO1'
          have HZ0' := Lib.hid ((show Bk (wx4.setRow pB (dval d s2 n2 c2 m2)) pA (dval d s1 n1 c1 m1) 39 from ArrKit.Bk.rowOther HZ0.out _ (HPQ.out)))
          clear HZ0
          have HZ0 := HZ0'
          clear HZ0'
          have HX1' : Hid (Bk (wx4.setRow pB (dval d s2 n2 c2 m2)) pB (dval d s2 n2 c2 m2) 39) := Lib.hid (ArrKit.Bk.row HZ1.out _)
          clear HZ1
          have HZ1 := HX1'
          clear HX1'
          refine hK.out _ _ (ArrKit.Fr.row hHeld5 _ _ (.inl HLO1.out)) (fun hHeld6 => ?_)
          clear hK K hHeld5
          clear hfx5
          generalize (wx4.setRow pB (dval d s2 n2 c2 m2)) = wx5 at *
          change wpAnyH _ _ _ _ _ 0 #[true, true, true, true, true, true, true, true] _ _
          refine wpAnyH_done (by kernel_rfl) ?_ _
          refine NoPanic.normal ?_
          have HEND := Lib.hid hHeld6
          clear hHeld6
          exact HREST.out wx5 pA pB s1 n1 c1 m1 s2 n2 c2 m2 HEND.out ⟨HZ0.out, HO0.out⟩ ⟨HZ1.out, HO1.out⟩ HPQ.out HLO0.out HLO1.out
        · simp only [List.getElem_toArray, List.getElem_cons_succ, List.getElem_cons_zero]
          refine (if_pos (by kernel_rfl)).mpr ?_
          go_wp2_with fail
          have hfx2 : Fr (fun _ => False) wx1 (wx1.alloc (.cells DZ 39)) := Fr.alloc (Fr.refl _ _) _
          have HLO1 : Hid (w2.heap.size ≤ wx1.heap.size) := Lib.hid (Fr.size hHeld2)
          have HO0' := Lib.hid (DV.keep HO0.out hfx2)
          clear HO0
          have HO0 := HO0'
          clear HO0'
          have HO1' := Lib.hid (DV.keep HO1.out hfx2)
          clear HO1
          have HO1 := HO1'
          clear HO1'
          have HZ1 : Hid (Bk (wx1.alloc (.cells DZ 39)) wx1.heap.size DZ 39) := Lib.hid (Bk.new wx1 _)
          have HB1 : Hid (wx1.heap.size < (wx1.alloc (.cells DZ 39)).heap.size) := Lib.hid (Bk.lt HZ1.out)
          refine hK.out _ _ (hHeld2.then0 hfx2) (fun hHeld3 => ?_)
          clear hK K hHeld2
          clear hfx2
          generalize wx1.heap.size = pB at *
          generalize (wx1.alloc (.cells DZ 39)) = wx2 at *
          change wpAnyH _ _ _ _ _ 3 #[true, true, true, true, false, true, false, false] _ _
          refine wpAnyH_ready (rs := [4]) (by kernel_rfl) (by simp) ?_
          refine AllReadyH.cons rfl (fun K hK => ?_) AllReadyH.nil
          simp only [List.getElem_toArray, List.getElem_cons_succ, List.getElem_cons_zero]
          refine (if_pos (by kernel_rfl)).mpr ?_
          go_wp2_with fail
          have hfx3 : Fr (fun _ => False) wx2 (wx2.alloc (.cells DZ 39)) := Fr.alloc (Fr.refl _ _) _
          have HLO0 : Hid (w2.heap.size ≤ wx2.heap.size) := Lib.hid (Fr.size hHeld3)
          have HPQ : Hid (wx2.heap.size ≠ pB) := Lib.hid (by have h1 := Bk.lt HZ1.out; omega)
          have HO0' := Lib.hid (DV.keep HO0.out hfx3)
          clear HO0
          have HO0 := HO0'
          clear HO0'
          have HO1' := Lib.hid (DV.keep HO1.out hfx3)
          clear HO1
          have HO1 := HO1'
          clear HO1'
          have HZ1' := Lib.hid (hfx3.keep HZ1.out (fun h => h))
          clear HZ1
          have HZ1 := HZ1'
          clear HZ1'
          have HZ0 : Hid (Bk (wx2.alloc (.cells DZ 39)) wx2.heap.size DZ 39) := Lib.hid (Bk.new wx2 _)
          have HB0 : Hid (wx2.heap.size < (wx2.alloc (.cells DZ 39)).heap.size) := Lib.hid (Bk.lt HZ0.out)
          have HB1' : Hid (pB < (wx2.alloc (.cells DZ 39)).heap.size) := Lib.hid (Bk.lt HZ1.out)
          clear HB1
          have HB1 := HB1'
          clear HB1'
          refine hK.out _ _ (hHeld3.then0 hfx3) (fun hHeld4 => ?_)
          clear hK K hHeld3
          clear hfx3
          generalize wx2.heap.size = pA at *
          generalize (wx2.alloc (.cells DZ 39)) = wx3 at *
          change wpAnyH _ _ _ _ _ 2 #[true, true, true, true, true, true, false, false] _ _
          refine wpAnyH_ready (rs := [6]) (by kernel_rfl) (by simp) ?_
          refine AllReadyH.cons rfl (fun K hK => ?_) AllReadyH.nil
          simp only [List.getElem_toArray, List.getElem_cons_succ, List.getElem_cons_zero]
          refine (if_pos (by kernel_rfl)).mpr ?_
          refine wp_store_row 39 _ _ rfl pA (dval d s1 n1 c1 m1) rfl rfl 39 DZ HZ0.out (HID.out _ _ _ _) rfl (HDO.out _ _ _ _) ?_
          have hfx4 := Fr.row1 wx3 pA (dval d s1 n1 c1 m1)
          have HO0' := Lib.hid (DV.past HO0.out HOK.out hfx4 HZ0.out DZ_no)
          clear HO0
          have HO0 := HO0'
          clear HO0'
          have HO1' := Lib.hid (DV.past HO1.out HOK.out hfx4 HZ0.out DZ_no)
          clear HO1
          have HO1 := HO1'
          clear HO1'
          have HZ1' := Lib.hid ((show Bk (wx3.setRow pA (dval d s1 n1 c1 m1)) pB DZ 39 from ArrKit.Bk.rowOther HZ1.out _ (HPQ.out.symm)))
          clear HZ1
          have HZ1 := HZ1'
          clear HZ1'
          have HX0' : Hid (Bk (wx3.setRow pA (dval d s1 n1 c1 m1)) pA (dval d s1 n1 c1 m1) 39) := Lib.hid (ArrKit.Bk.row HZ0.out _)
          clear HZ0
          have HZ0 := HX0'
          clear HX0'
          refine hK.out _ _ (ArrKit.Fr.row hHeld4 _ _ (.inl HLO0.out)) (fun hHeld5 => ?_)
          clear hK K hHeld4
          clear hfx4
          generalize (wx3.setRow pA (dval d s1 n1 c1 m1)) = wx4 at *
          change wpAnyH _ _ _ _ _ 1 #[true, true, true, true, true, true, true, false] _ _
          refine wpAnyH_ready (rs := [7]) (by kernel_rfl) (by simp) ?_
          refine AllReadyH.cons rfl (fun K hK => ?_) AllReadyH.nil
          simp only [List.getElem_toArray, List.getElem_cons_succ, List.getElem_cons_zero]
          refine (if_pos (by kernel_rfl)).mpr ?_
          refine wp_store_row 39 _ _ rfl pB (dval d s2 n2 c2 m2) rfl rfl 39 DZ HZ1.out (HID.out _ _ _ _) rfl (HDO.out _ _ _ _) ?_
          have hfx5 := Fr.row1 wx4 pB (dval d s2 n2 c2 m2)
          have HO0' := Lib.hid (DV.past HO0.out HOK.out hfx5 HZ1.out DZ_no)
          clear HO0
          have HO0 := HO0'
          clear HO0'
          have HO1' := Lib.hid (DV.past HO1.out HOK.out hfx5 HZ1.out DZ_no)
          clear HO1
          have HO1 := HO1'
          clear HO1'
          have HZ0' := Lib.hid ((show Bk (wx4.setRow pB (dval d s2 n2 c2 m2)) pA (dval d s1 n1 c1 m1) 39 from ArrKit.Bk.rowOther HZ0.out _ (HPQ.out)))
          clear HZ0
          have HZ0 := HZ0'
          clear HZ0'
          have HX1' : Hid (Bk (wx4.setRow pB (dval d s2 n2 c2 m2)) pB (dval d s2 n2 c2 m2) 39) := Lib.hid (ArrKit.Bk.row HZ1.out _)
          clear HZ1
          have HZ1 := HX1'
          clear HX1'
          refine hK.out _ _ (ArrKit.Fr.row hHeld5 _ _ (.inl HLO1.out)) (fun hHeld6 => ?_)
          clear hK K hHeld5
          clear hfx5
          generalize (wx4.setRow pB (dval d s2 n2 c2 m2)) = wx5 at *
          change wpAnyH _ _ _ _ _ 0 #[true, true, true, true, true, true, true, true] _ _
          refine wpAnyH_done (by kernel_rfl) ?_ _
          refine NoPanic.normal ?_
          have HEND := Lib.hid hHeld6
          clear hHeld6
          exact HREST.out wx5 pA pB s1 n1 c1 m1 s2 n2 c2 m2 HEND.out ⟨HZ0.out, HO0.out⟩ ⟨HZ1.out, HO1.out⟩ HPQ.out HLO0.out HLO1.out
      · simp only [List.getElem_toArray, List.getElem_cons_succ, List.getElem_cons_zero]
        refine (if_pos (by kernel_rfl)).mpr ?_
        go_wp2_with fail
        have hfx1 : Fr (fun _ => False) wx0 (wx0.alloc (.cells DZ 39)) := Fr.alloc (Fr.refl _ _) _
        have HLO0 : Hid (w2.heap.size ≤ wx0.heap.size) := Lib.hid (Fr.size hHeld1)
        have HO0' := Lib.hid (DV.keep HO0.out hfx1)
        clear HO0
        have HO0 := HO0'
        clear HO0'
        have HZ0 : Hid (Bk (wx0.alloc (.cells DZ 39)) wx0.heap.size DZ 39) := Lib.hid (Bk.new wx0 _)
        have HB0 : Hid (wx0.heap.size < (wx0.alloc (.cells DZ 39)).heap.size) := Lib.hid (Bk.lt HZ0.out)
        refine hK.out _ _ (hHeld1.then0 hfx1) (fun hHeld2 => ?_)
        clear hK K hHeld1
        clear hfx1
        generalize wx0.heap.size = pA at *
        generalize (wx0.alloc (.cells DZ 39)) = wx1 at *
        change wpAnyH _ _ _ _ _ 4 #[true, true, true, false, true, false, false, false] _ _
        refine wpAnyH_ready (rs := [3, 5]) (by kernel_rfl) (by simp) ?_
        refine AllReadyH.cons rfl (fun K hK => ?_) (AllReadyH.cons rfl (fun K hK => ?_) (AllReadyH.nil))
        · simp only [List.getElem_toArray, List.getElem_cons_succ, List.getElem_cons_zero]
          refine (if_pos (by kernel_rfl)).mpr ?_
          go_wp2_with fail
          refine (HDC.out _ (HF2.out.then0 hHeld2)).mono ?_
          rintro e wx2 ⟨s2, n2, c2, m2, rfl, hown1, hfx2⟩
          dsimp only
          have HO0' := Lib.hid (DV.keep HO0.out hfx2)
          clear HO0
          have HO0 := HO0'
          clear HO0'
          have HZ0' := Lib.hid (hfx2.keep HZ0.out (fun h => h))
          clear HZ0
          have HZ0 := HZ0'
          clear HZ0'
          have HO1 := Lib.hid hown1
          clear hown1
          have HB0' : Hid (pA < wx2.heap.size) := Lib.hid (Bk.lt HZ0.out)
          clear HB0
          have HB0 := HB0'
          clear HB0'
          refine hK.out _ _ (hHeld2.then0 hfx2) (fun hHeld3 => ?_)
          clear hK K hHeld2
          clear hfx2
          change wpAnyH _ _ _ _ _ 3 #[true, true, true, true, true, false, false, false] _ _
          refine wpAnyH_ready (rs := [5]) (by kernel_rfl) (by simp) ?_
          refine AllReadyH.cons rfl (fun K hK => ?_) AllReadyH.nil
          simp only [List.getElem_toArray, List.getElem_cons_succ, List.getElem_cons_zero]
          refine (if_pos (by kernel_rfl)).mpr ?_
          go_wp2_with fail
          have hfx3 : Fr (fun _ => False) wx2 (wx2.alloc (.cells DZ 39)) := Fr.alloc (Fr.refl _ _) _
          have HLO1 : Hid (w2.heap.size ≤ wx2.heap.size) := Lib.hid (Fr.size hHeld3)
          have HPQ : Hid (pA ≠ wx2.heap.size) := Lib.hid (by have h1 := Bk.lt HZ0.out; omega)
          have HO0' := Lib.hid (DV.keep HO0.out hfx3)
          clear HO0
          have HO0 := HO0'
          clear HO0'
          have HZ0' := Lib.hid (hfx3.keep HZ0.out (fun h => h))
          clear HZ0
          have HZ0 := HZ0'
          clear HZ0'
          have HO1' := Lib.hid (DV.keep HO1.out hfx3)
          clear HO1
          have HO1 := HO1'
          clear HO1'
          have HZ1 : Hid (Bk (wx2.alloc (.cells DZ 39)) wx2.heap.size DZ 39) := Lib.hid (Bk.new wx2 _)
          have HB1 : Hid (wx2.heap.size < (wx2.alloc (.cells DZ 39)).heap.size) := Lib.hid (Bk.lt HZ1.out)
          have HB0' : Hid (pA < (wx2.alloc (.cells DZ 39)).heap.size) := Lib.hid (Bk.lt HZ0.out)
          clear HB0
          have HB0 := HB0'
          clear HB0'
          refine hK.out _ _ (hHeld3.then0 hfx3) (fun hHeld4 => ?_)
          clear hK K hHeld3
          clear hfx3
          generalize wx2.heap.size = pB at *
          generalize (wx2.alloc (.cells DZ 39)) = wx3 at *
          change wpAnyH _ _ _ _ _ 2 #[true, true, true, true, true, true, false, false] _ _
          refine wpAnyH_ready (rs := [6]) (by kernel_rfl) (by simp) ?_
          refine AllReadyH.cons rfl (fun K hK => ?_) AllReadyH.nil
          simp only [List.getElem_toArray, List.getElem_cons_succ, List.getElem_cons_zero]
          refine (if_pos (by kernel_rfl)).mpr ?_
          refine wp_store_row 39 _ _ rfl pA (dval d s1 n1 c1 m1) rfl rfl 39 DZ HZ0.out (HID.out _ _ _ _) rfl (HDO.out _ _ _ _) ?_
          have hfx4 := Fr.row1 wx3 pA (dval d s1 n1 c1 m1)
          have HO0' := Lib.hid (DV.past HO0.out HOK.out hfx4 HZ0.out DZ_no)
          clear HO0
          have HO0 := HO0'
          clear HO0'
          have HO1' := Lib.hid (DV.past HO1.out HOK.out hfx4 HZ0.out DZ_no)
          clear HO1
          have HO1 := HO1'
          clear HO1'
          have HZ1' := Lib.hid ((show Bk (wx3.setRow pA (dval d s1 n1 c1 m1)) pB DZ 39 from ArrKit.Bk.rowOther HZ1.out _ (HPQ.out.symm)))
          clear HZ1
          have HZ1 := HZ1'
          clear HZ1'
          have HX0' : Hid (Bk (wx3.setRow pA (dval d s1 n1 c1 m1)) pA (dval d s1 n1 c1 m1) 39) := Lib.hid (ArrKit.Bk.row HZ0.out _)
          clear HZ0
          have HZ0 := HX0'
          clear HX0'
          refine hK.out _ _ (ArrKit.Fr.row hHeld4 _ _ (.inl HLO0.out)) (fun hHeld5 => ?_)
          clear hK K hHeld4
          clear hfx4
          generalize (wx3.setRow pA (dval d s1 n1 c1 m1)) = wx4 at *
          change wpAnyH _ _ _ _ _ 1 #[true, true, true, true, true, true, true, false] _ _
          refine wpAnyH_ready (rs := [7]) (by kernel_rfl) (by simp) ?_
          refine AllReadyH.cons rfl (fun K hK => ?_) AllReadyH.nil
          simp only [List.getElem_toArray, List.getElem_cons_succ, List.getElem_cons_zero]
          refine (if_pos (by kernel_rfl)).mpr ?_
          refine wp_store_row 39 _ _ rfl pB (dval d s2 n2 c2 m2) rfl rfl 39 DZ HZ1.out (HID.out _ _ _ _) rfl (HDO.out _ _ _ _) ?_
          have hfx5 := Fr.row1 wx4 pB (dval d s2 n2 c2 m2)
          have HO0' := Lib.hid (DV.past HO0.out HOK.out hfx5 HZ1.out DZ_no)
          clear HO0
          have HO0 := HO0'
          clear HO0'
          have HZ0' := Lib.hid ((show Bk (wx4.setRow pB (dval d s2 n2 c2 m2)) pA (dval d s1 n1 c1 m1) 39 from ArrKit.Bk.rowOther HZ0.out _ (HPQ.out)))
          clear HZ0
          have HZ0 := HZ0'
          clear HZ0'
          have HO1' := Lib.hid (DV.past HO1.out HOK.out hfx5 HZ1.out DZ_no)
          clear HO1
          have HO1 := HO1'
          clear HO1'
          have HX1' : Hid (Bk (wx4.setRow pB (dval d s2 n2 c2 m2)) pB (dval d s2 n2 c2 m2) 39) := Lib.hid (ArrKit.Bk.row HZ1.out _)
          clear HZ1
          have HZ1 := HX1'
          clear HX1'
          refine hK.out _ _ (ArrKit.Fr.row hHeld5 _ _ (.inl HLO1.out)) (fun hHeld6 => ?_)
          clear hK K hHeld5
          clear hfx5
          generalize (wx4.setRow pB (dval d s2 n2 c2 m2)) = wx5 at *
          change wpAnyH _ _ _ _ _ 0 #[true, true, true, true, true, true, true, true] _ _
          refine wpAnyH_done (by kernel_rfl) ?_ _
          refine NoPanic.normal ?_
          have HEND := Lib.hid hHeld6
          clear hHeld6
          exact HREST.out wx5 pA pB s1 n1 c1 m1 s2 n2 c2 m2 HEND.out ⟨HZ0.out, HO0.out⟩ ⟨HZ1.out, HO1.out⟩ HPQ.out HLO0.out HLO1.out
        · simp only [List.getElem_toArray, List.getElem_cons_succ, List.getElem_cons_zero]
          refine (if_pos (by kernel_rfl)).mpr ?_
          go_wp2_with fail
          have hfx2 : Fr (fun _ => False) wx1 (wx1.alloc (.cells DZ 39)) := Fr.alloc (Fr.refl _ _) _
          have HLO1 : Hid (w2.heap.size ≤ wx1.heap.size) := Lib.hid (Fr.size hHeld2)
          have HPQ : Hid (pA ≠ wx1.heap.size) := Lib.hid (by have h1 := Bk.lt HZ0.out; omega)
          have HO0' := Lib.hid (DV.keep HO0.out hfx2)
          clear HO0
          have HO0 := HO0'
          clear HO0'
          have HZ0' := Lib.hid (hfx2.keep HZ0.out (fun h => h))
          clear HZ0
          have HZ0 := HZ0'
          clear HZ0'
          have HZ1 : Hid (Bk (wx1.alloc (.cells DZ 39)) wx1.heap.size DZ 39) := Lib.hid (Bk.new wx1 _)
          have HB1 : Hid (wx1.heap.size < (wx1.alloc (.cells DZ 39)).heap.size) := Lib.hid (Bk.lt HZ1.out)
          have HB0' : Hid (pA < (wx1.alloc (.cells DZ 39)).heap.size) := Lib.hid (Bk.lt HZ0.out)
          clear HB0
          have HB0 := HB0'
          clear HB0'
          refine hK.out _ _ (hHeld2.then0 hfx2) (fun hHeld3 => ?_)
          clear hK K hHeld2
          clear hfx2
          generalize wx1.heap.size = pB at *
          generalize (wx1.alloc (.cells DZ 39)) = wx2 at *
          change wpAnyH _ _ _ _ _ 3 #[true, true, true, false, true, true, false, false] _ _
          refine wpAnyH_ready (rs := [3]) (by kernel_rfl) (by simp) ?_
          refine AllReadyH.cons rfl (fun K hK => ?_) AllReadyH.nil
          simp only [List.getElem_toArray, List.getElem_cons_succ, List.getElem_cons_zero]
          refine (if_pos (by kernel_rfl)).mpr ?_
          go_wp2_with fail
          refine (HDC.out _ (HF2.out.then0 hHeld3)).mono ?_
          rintro e wx3 ⟨s2, n2, c2, m2, rfl, hown1, hfx3⟩
          dsimp only
          have HO0' := Lib.hid (DV.keep HO0.out hfx3)
          clear HO0
          have HO0 := HO0'
          clear HO0'
          have HZ0' := Lib.hid (hfx3.keep HZ0.out (fun h => h))
          clear HZ0
          have HZ0 := HZ0'
          clear HZ0'
          have HZ1' := Lib.hid (hfx3.keep HZ1.out (fun h => h))
          clear HZ1
          have HZ1 := HZ1'
          clear HZ1'
          have HO1 := Lib.hid hown1
          clear hown1
          have HB0' : Hid (pA < wx3.heap.size) := Lib.hid (Bk.lt HZ0.out)
          clear HB0
          have HB0 := HB0'
          clear HB0'
          have HB1' : Hid (pB < wx3.heap.size) := Lib.hid (Bk.lt HZ1.out)
          clear HB1
          have HB1 := HB1'
          clear HB1'
          refine hK.out _ _ (hHeld3.then0 hfx3) (fun hHeld4 => ?_)
          clear hK K hHeld3
          clear hfx3
          change wpAnyH _ _ _ _ _ 2 #[true, true, true, true, true, true, false, false] _ _
          refine wpAnyH_ready (rs := [6]) (by kernel_rfl) (by simp) ?_
          refine AllReadyH.cons rfl (fun K hK => ?_) AllReadyH.nil
          simp only [List.getElem_toArray, List.getElem_cons_succ, List.getElem_cons_zero]
          refine (if_pos (by kernel_rfl)).mpr ?_
          refine wp_store_row 39 _ _ rfl pA (dval d s1 n1 c1 m1) rfl rfl 39 DZ HZ0.out (HID.out _ _ _ _) rfl (HDO.out _ _ _ _) ?_
          have hfx4 := Fr.row1 wx3 pA (dval d s1 n1 c1 m1)
          have HO0' := Lib.hid (DV.past HO0.out HOK.out hfx4 HZ0.out DZ_no)
          clear HO0
          have HO0 := HO0'
          clear HO0'
          have HZ1' := Lib.hid ((show Bk (wx3.setRow pA (dval d s1 n1 c1 m1)) pB DZ 39 from ArrKit.Bk.rowOther HZ1.out _ (HPQ.out.symm)))
          clear HZ1
          have HZ1 := HZ1'
          clear HZ1'
          have HO1' := Lib.hid (DV.past HO1.out HOK.out hfx4 HZ0.out DZ_no)
          clear HO1
          have HO1 := HO1'
          clear HO1'
          have HX0' : Hid (Bk (wx3.setRow pA (dval d s1 n1 c1 m1)) pA (dval d s1 n1 c1 m1) 39) := Lib.hid (ArrKit.Bk.row HZ0.out _)
          clear HZ0
          have HZ0 := HX0'
          clear HX0'
          refine hK.out _ _ (ArrKit.Fr.row hHeld4 _ _ (.inl HLO0.out)) (fun hHeld5 => ?_)
          clear hK K hHeld4
          clear hfx4
          generalize (wx3.setRow pA (dval d s1 n1 c1 m1)) = wx4 at *
          change wpAnyH _ _ _ _ _ 1 #[true, true, true, true, true, true, true, false] _ _
          refine wpAnyH_ready (rs := [7]) (by kernel_rfl) (by simp) ?_
          refine AllReadyH.cons rfl (fun K hK => ?_) AllReadyH.nil
          simp only [List.getElem_toArray, List.getElem_cons_succ, List.getElem_cons_zero]
          refine (if_pos (by kernel_rfl)).mpr ?_
          refine wp_store_row 39 _ _ rfl pB (dval d s2 n2 c2 m2) rfl rfl 39 DZ HZ1.out (HID.out _ _ _ _) rfl (HDO.out _ _ _ _) ?_
          have hfx5 := Fr.row1 wx4 pB (dval d s2 n2 c2 m2)
          have HO0' := Lib.hid (DV.past HO0.out HOK.out hfx5 HZ1.out DZ_no)
          clear HO0
          have HO0 := HO0'
          clear HO0'
          have HZ0' := Lib.hid ((show Bk (wx4.setRow pB (dval d s2 n2 c2 m2)) pA (dval d s1 n1 c1 m1) 39 from ArrKit.Bk.rowOther HZ0.out _ (HPQ.out)))
          clear HZ0
          have HZ0 := HZ0'
          clear HZ0'
          have HO1' := Lib.hid (DV.past HO1.out HOK.out hfx5 HZ1.out DZ_no)
          clear HO1
          have HO1 := HO1'
          clear HO1'
          have HX1' : Hid (Bk (wx4.setRow pB (dval d s2 n2 c2 m2)) pB (dval d s2 n2 c2 m2) 39) := Lib.hid (ArrKit.Bk.row HZ1.out _)
          clear HZ1
          have HZ1 := HX1'
          clear HX1'
          refine hK.out _ _ (ArrKit.Fr.row hHeld5 _ _ (.inl HLO1.out)) (fun hHeld6 => ?_)
          clear hK K hHeld5
          clear hfx5
          generalize (wx4.setRow pB (dval d s2 n2 c2 m2)) = wx5 at *
          change wpAnyH _ _ _ _ _ 0 #[true, true, true, true, true, true, true, true] _ _
          refine wpAnyH_done (by kernel_rfl) ?_ _
          refine NoPanic.normal ?_
          have HEND := Lib.hid hHeld6
          clear hHeld6
          exact HREST.out wx5 pA pB s1 n1 c1 m1 s2 n2 c2 m2 HEND.out ⟨HZ0.out, HO0.out⟩ ⟨HZ1.out, HO1.out⟩ HPQ.out HLO0.out HLO1.out
      · simp only [List.getElem_toArray, List.getElem_cons_succ, List.getElem_cons_zero]
        refine (if_pos (by kernel_rfl)).mpr ?_
        go_wp2_with fail
        have hfx1 : Fr (fun _ => False) wx0 (wx0.alloc (.cells DZ 39)) := Fr.alloc (Fr.refl _ _) _
        have HLO1 : Hid (w2.heap.size ≤ wx0.heap.size) := Lib.hid (Fr.size hHeld1)
        have HO0' := Lib.hid (DV.keep HO0.out hfx1)
        clear HO0
        have HO0 := HO0'
        clear HO0'
        have HZ1 : Hid (Bk (wx0.alloc (.cells DZ 39)) wx0.heap.size DZ 39) := Lib.hid (Bk.new wx0 _)
        have HB1 : Hid (wx0.heap.size < (wx0.alloc (.cells DZ 39)).heap.size) := Lib.hid (Bk.lt HZ1.out)
        refine hK.out _ _ (hHeld1.then0 hfx1) (fun hHeld2 => ?_)
        clear hK K hHeld1
        clear hfx1
        generalize wx0.heap.size = pB at *
        generalize (wx0.alloc (.cells DZ 39)) = wx1 at *
        change wpAnyH _ _ _ _ _ 4 #[true, true, true, false, false, true, false, false] _ _
        refine wpAnyH_ready (rs := [3, 4]) (by kernel_rfl) (by simp) ?_
        refine AllReadyH.cons rfl (fun K hK => ?_) (AllReadyH.cons rfl (fun K hK => ?_) (AllReadyH.nil))
        · simp only [List.getElem_toArray, List.getElem_cons_succ, List.getElem_cons_zero]
          refine (if_pos (by kernel_rfl)).mpr ?_
          go_wp2_with fail
          refine (HDC.out _ (HF2.out.then0 hHeld2)).mono ?_
          rintro e wx2 ⟨s2, n2, c2, m2, rfl, hown1, hfx2⟩
          dsimp only
          have HO0' := Lib.hid (DV.keep HO0.out hfx2)
          clear HO0
          have HO0 := HO0'
          clear HO0'
          have HZ1' := Lib.hid (hfx2.keep HZ1.out (fun h => h))
          clear HZ1
          have HZ1 := HZ1'
          clear HZ1'
          have HO1 := Lib.hid hown1
          clear hown1
          have HB1' : Hid (pB < wx2.heap.size) := Lib.hid (Bk.lt HZ1.out)
          clear HB1
          have HB1 := HB1'
          clear HB1'
          refine hK.out _ _ (hHeld2.then0 hfx2) (fun hHeld3 => ?_)
          clear hK K hHeld2
          clear hfx2
          change wpAnyH _ _ _ _ _ 3 #[true, true, true, true, false, true, false, false] _ _
          refine wpAnyH_ready (rs := [4]) (by kernel_rfl) (by simp) ?_
          refine AllReadyH.cons rfl (fun K hK => ?_) AllReadyH.nil
          simp only [List.getElem_toArray, List.getElem_cons_succ, List.getElem_cons_zero]
          refine (if_pos (by kernel_rfl)).mpr ?_
          go_wp2_with fail
          have hfx3 : Fr (fun _ => False) wx2 (wx2.alloc (.cells DZ 39)) := Fr.alloc (Fr.refl _ _) _
          have HLO0 : Hid (w2.heap.size ≤ wx2.heap.size) := Lib.hid (Fr.size hHeld3)
          have HPQ : Hid (wx2.heap.size ≠ pB) := Lib.hid (by have h1 := Bk.lt HZ1.out; omega)
          have HO0' := Lib.hid (DV.keep HO0.out hfx3)
          clear HO0
          have HO0 := HO0'
          clear HO0'
          have HZ1' := Lib.hid (hfx3.keep HZ1.out (fun h => h))
          clear HZ1
          have HZ1 := HZ1'
          clear HZ1'
          have HO1' := Lib.hid (DV.keep HO1.out hfx3)
          clear HO1
          have HO1 := HO1'
          clear HO1'
          have HZ0 : Hid (Bk (wx2.alloc (.cells DZ 39)) wx2.heap.size DZ 39) := Lib.hid (Bk.new wx2 _)
          have HB0 : Hid (wx2.heap.size < (wx2.alloc (.cells DZ 39)).heap.size) := Lib.hid (Bk.lt HZ0.out)
          have HB1' : Hid (pB < (wx2.alloc (.cells DZ 39)).heap.size) := Lib.hid (Bk.lt HZ1.out)
          clear HB1
          have HB1 := HB1'
          clear HB1'
          refine hK.out _ _ (hHeld3.then0 hfx3) (fun hHeld4 => ?_)
          clear hK K hHeld3
          clear hfx3
          generalize wx2.heap.size = pA at *
          generalize (wx2.alloc (.cells DZ 39)) = wx3 at *
          change wpAnyH _ _ _ _ _ 2 #[true, true, true, true, true, true, false, false] _ _
          refine wpAnyH_ready (rs := [6]) (by kernel_rfl) (by simp) ?_
          refine AllReadyH.cons rfl (fun K hK => ?_) AllReadyH.nil
          simp only [List.getElem_toArray, List.getElem_cons_succ, List.getElem_cons_zero]
          refine (if_pos (by kernel_rfl)).mpr ?_
          refine wp_store_row 39 _ _ rfl pA (dval d s1 n1 c1 m1) rfl rfl 39 DZ HZ0.out (HID.out _ _ _ _) rfl (HDO.out _ _ _ _) ?_
          have hfx4 := Fr.row1 wx3 pA (dval d s1 n1 c1 m1)
          have HO0' := Lib.hid (DV.past HO0.out HOK.out hfx4 HZ0.out DZ_no)
          clear HO0
          have HO0 := HO0'
          clear HO0'
          have HZ1' := Lib.hid ((show Bk (wx3.setRow pA (dval d s1 n1 c1 m1)) pB DZ 39 from ArrKit.Bk.rowOther HZ1.out _ (HPQ.out.symm)))
          clear HZ1
          have HZ1 := HZ1'
          clear HZ1'
          have HO1' := Lib.hid (DV.past HO1.out HOK.out hfx4 HZ0.out DZ_no)
          clear HO1
          have HO1 := HO1'
          clear HO1'
          have HX0' : Hid (Bk (wx3.setRow pA (dval d s1 n1 c1 m1)) pA (dval d s1 n1 c1 m1) 39) := Lib.hid (ArrKit.Bk.row HZ0.out _)
          clear HZ0
          have HZ0 := HX0'
          clear HX0'
          refine hK.out _ _ (ArrKit.Fr.row hHeld4 _ _ (.inl HLO0.out)) (fun hHeld5 => ?_)
          clear hK K hHeld4
          clear hfx4
          generalize (wx3.setRow pA (dval d s1 n1 c1 m1)) = wx4 at *
          change wpAnyH _ _ _ _ _ 1 #[true, true, true, true, true, true, true, false] _ _
          refine wpAnyH_ready (rs := [7]) (by kernel_rfl) (by simp) ?_
          refine AllReadyH.cons rfl (fun K hK => ?_) AllReadyH.nil
          simp only [List.getElem_toArray, List.getElem_cons_succ, List.getElem_cons_zero]
          refine (if_pos (by kernel_rfl)).mpr ?_
          refine wp_store_row 39 _ _ rfl pB (dval d s2 n2 c2 m2) rfl rfl 39 DZ HZ1.out (HID.out _ _ _ _) rfl (HDO.out _ _ _ _) ?_
          have hfx5 := Fr.row1 wx4 pB (dval d s2 n2 c2 m2)
          have HO0' := Lib.hid (DV.past HO0.out HOK.out hfx5 HZ1.out DZ_no)
          clear HO0
          have HO0 := HO0'
          clear HO0'
          have HO1' := Lib.hid (DV.past HO1.out HOK.out hfx5 HZ1.out DZ_no)
          clear HO1
          have HO1 := HO1'
          clear HO1'
          have HZ0' := Lib.hid ((show Bk (wx4.setRow pB (dval d s2 n2 c2 m2)) pA (dval d s1 n1 c1 m1) 39 from ArrKit.Bk.rowOther HZ0.out _ (HPQ.out)))
          clear HZ0
          have HZ0 := HZ0'
          clear HZ0'
          have HX1' : Hid (Bk (wx4.setRow pB (dval d s2 n2 c2 m2)) pB (dval d s2 n2 c2 m2) 39) := Lib.hid (ArrKit.Bk.row HZ1.out _)
          clear HZ1
          have HZ1 := HX1'
          clear HX1'
          refine hK.out _ _ (ArrKit.Fr.row hHeld5 _ _ (.inl HLO1.out)) (fun hHeld6 => ?_)
          clear hK K hHeld5
          clear hfx5
          generalize (wx4.setRow pB (dval d s2 n2 c2 m2)) = wx5 at *
          change wpAnyH _ _ _ _ _ 0 #[true, true, true, true, true, true, true, true] _ _
          refine wpAnyH_done (by kernel_rfl) ?_ _
          refine NoPanic.normal ?_
          have HEND := Lib.hid hHeld6
          clear hHeld6
          exact HREST.out wx5 pA pB s1 n1 c1 m1 s2 n2 c2 m2 HEND.out ⟨HZ0.out, HO0.out⟩ ⟨HZ1.out, HO1.out⟩ HPQ.out HLO0.out HLO1.out
        · simp only [List.getElem_toArray, List.getElem_cons_succ, List.getElem_cons_zero]
          refine (if_pos (by kernel_rfl)).mpr ?_
          go_wp2_with fail
          have hfx2 : Fr (fun _ => False) wx1 (wx1.alloc (.cells DZ 39)) := Fr.alloc (Fr.refl _ _) _
          have HLO0 : Hid (w2.heap.size ≤ wx1.heap.size) := Lib.hid (Fr.size hHeld2)
          have HPQ : Hid (wx1.heap.size ≠ pB) := Lib.hid (by have h1 := Bk.lt HZ1.out; omega)
          have HO0' := Lib.hid (DV.keep HO0.out hfx2)
          clear HO0
          have HO0 := HO0'
          clear HO0'
          have HZ1' := Lib.hid (hfx2.keep HZ1.out (fun h => h))
          clear HZ1
          have HZ1 := HZ1'
          clear HZ1'
          have HZ0 : Hid (Bk (wx1.alloc (.cells DZ 39)) wx1.heap.size DZ 39) := Lib.hid (Bk.new wx1 _)
          have HB0 : Hid (wx1.heap.size < (wx1.alloc (.cells DZ 39)).heap.size) := Lib.hid (Bk.lt HZ0.out)
          have HB1' : Hid (pB < (wx1.alloc (.cells DZ 39)).heap.size) := Lib.hid (Bk.lt HZ1.out)
          clear HB1
          have HB1 := HB1'
          clear HB1'
          refine hK.out _ _ (hHeld2.then0 hfx2) (fun hHeld3 => ?_)
          clear hK K hHeld2
          clear hfx2
          generalize wx1.heap.size = pA at *
          generalize (wx1.alloc (.cells DZ 39)) = wx2 at *
          change wpAnyH _ _ _ _ _ 3 #[true, true, true, false, true, true, false, false] _ _
          refine wpAnyH_ready (rs := [3]) (by kernel_rfl) (by simp) ?_
          refine AllReadyH.cons rfl (fun K hK => ?_) AllReadyH.nil
          simp only [List.getElem_toArray, List.getElem_cons_succ, List.getElem_cons_zero]
          refine (if_pos (by kernel_rfl)).mpr ?_
          go_wp2_with fail
          refine (HDC.out _ (HF2.out.then0 hHeld3)).mono ?_
          rintro e wx3 ⟨s2, n2, c2, m2, rfl, hown1, hfx3⟩
          dsimp only
          have HO0' := Lib.hid (DV.keep HO0.out hfx3)
          clear HO0
          have HO0 := HO0'
          clear HO0'
          have HZ1' := Lib.hid (hfx3.keep HZ1.out (fun h => h))
          clear HZ1
          have HZ1 := HZ1'
          clear HZ1'
          have HZ0' := Lib.hid (hfx3.keep HZ0.out (fun h => h))
          clear HZ0
          have HZ0 := HZ0'
          clear HZ0'
          have HO1 := Lib.hid hown1
          clear hown1
          have HB0' : Hid (pA < wx3.heap.size) := Lib.hid (Bk.lt HZ0.out)
          clear HB0
          have HB0 := HB0'
          clear HB0'
          have HB1' : Hid (pB < wx3.heap.size) := Lib.hid (Bk.lt HZ1.out)
          clear HB1
          have HB1 := HB1'
          clear HB1'
          refine hK.out _ _ (hHeld3.then0 hfx3) (fun hHeld4 => ?_)
          clear hK K hHeld3
          clear hfx3
          change wpAnyH _ _ _ _ _ 2 #[true, true, true, true, true, true, false, false] _ _
          refine wpAnyH_ready (rs := [6]) (by kernel_rfl) (by simp) ?_
          refine AllReadyH.cons rfl (fun K hK => ?_) AllReadyH.nil
          simp only [List.getElem_toArray, List.getElem_cons_succ, List.getElem_cons_zero]
          refine (if_pos (by kernel_rfl)).mpr ?_
          refine wp_store_row 39 _ _ rfl pA (dval d s1 n1 c1 m1) rfl rfl 39 DZ HZ0.out (HID.out _ _ _ _) rfl (HDO.out _ _ _ _) ?_
          have hfx4 := Fr.row1 wx3 pA (dval d s1 n1 c1 m1)
          have HO0' := Lib.hid (DV.past HO0.out HOK.out hfx4 HZ0.out DZ_no)
          clear HO0
          have HO0 := HO0'
          clear HO0'
          have HZ1' := Lib.hid ((show Bk (wx3.setRow pA (dval d s1 n1 c1 m1)) pB DZ 39 from ArrKit.Bk.rowOther HZ1.out _ (HPQ.out.symm)))
          clear HZ1
          have HZ1 := HZ1'
          clear HZ1'
          have HO1' := Lib.hid (DV.past HO1.out HOK.out hfx4 HZ0.out DZ_no)
          clear HO1
          have HO1 := HO1'
          clear HO1'
          have HX0' : Hid (Bk (wx3.setRow pA (dval d s1 n1 c1 m1)) pA (dval d s1 n1 c1 m1) 39) := Lib.hid (ArrKit.Bk.row HZ0.out _)
          clear HZ0
          have HZ0 := HX0'
          clear HX0'
          refine hK.out _ _ (ArrKit.Fr.row hHeld4 _ _ (.inl HLO0.out)) (fun hHeld5 => ?_)
          clear hK K hHeld4
          clear hfx4
          generalize (wx3.setRow pA (dval d s1 n1 c1 m1)) = wx4 at *
          change wpAnyH _ _ _ _ _ 1 #[true, true, true, true, true, true, true, false] _ _
          refine wpAnyH_ready (rs := [7]) (by kernel_rfl) (by simp) ?_
          refine AllReadyH.cons rfl (fun K hK => ?_) AllReadyH.nil
          simp only [List.getElem_toArray, List.getElem_cons_succ, List.getElem_cons_zero]
          refine (if_pos (by kernel_rfl)).mpr ?_
          refine wp_store_row 39 _ _ rfl pB (dval d s2 n2 c2 m2) rfl rfl 39 DZ HZ1.out (HID.out _ _ _ _) rfl (HDO.out _ _ _ _) ?_
          have hfx5 := Fr.row1 wx4 pB (dval d s2 n2 c2 m2)
          have HO0' := Lib.hid (DV.past HO0.out HOK.out hfx5 HZ1.out DZ_no)
          clear HO0
          have HO0 := HO0'
          clear HO0'
          have HZ0' := Lib.hid ((show Bk (wx4.setRow pB (dval d s2 n2 c2 m2)) pA (dval d s1 n1 c1 m1) 39 from ArrKit.Bk.rowOther HZ0.out _ (HPQ.out)))
          clear HZ0
          have HZ0 := HZ0'
          clear HZ0'
          have HO1' := Lib.hid (DV.past HO1.out HOK.out hfx5 HZ1.out DZ_no)
          clear HO1
          have HO1 := HO1'
          clear HO1'
          have HX1' : Hid (Bk (wx4.setRow pB (dval d s2 n2 c2 m2)) pB (dval d s2 n2 c2 m2) 39) := Lib.hid (ArrKit.Bk.row HZ1.out _)
          clear HZ1
          have HZ1 := HX1'
          clear HX1'
          refine hK.out _ _ (ArrKit.Fr.row hHeld5 _ _ (.inl HLO1.out)) (fun hHeld6 => ?_)
          clear hK K hHeld5
          clear hfx5
          generalize (wx4.setRow pB (dval d s2 n2 c2 m2)) = wx5 at *
          change wpAnyH _ _ _ _ _ 0 #[true, true, true, true, true, true, true, true] _ _
          refine wpAnyH_done (by kernel_rfl) ?_ _
          refine NoPanic.normal ?_
          have HEND := Lib.hid hHeld6
          clear hHeld6
          exact HREST.out wx5 pA pB s1 n1 c1 m1 s2 n2 c2 m2 HEND.out ⟨HZ0.out, HO0.out⟩ ⟨HZ1.out, HO1.out⟩ HPQ.out HLO0.out HLO1.out
    · simp only [List.getElem_toArray, List.getElem_cons_succ, List.getElem_cons_zero]
      refine (if_pos (by kernel_rfl)).mpr ?_
      go_wp2_with fail
      have hfx0 : Fr (fun _ => False) wd (wd.alloc (.cells DZ 39)) := Fr.alloc (Fr.refl _ _) _
      have HLO0 : Hid (w2.heap.size ≤ wd.heap.size) := Lib.hid (Fr.size hHeld0)
      have HZ0 : Hid (Bk (wd.alloc (.cells DZ 39)) wd.heap.size DZ 39) := Lib.hid (Bk.new wd _)
      have HB0 : Hid (wd.heap.size < (wd.alloc (.cells DZ 39)).heap.size) := Lib.hid (Bk.lt HZ0.out)
      refine hK.out _ _ (hHeld0.then0 hfx0) (fun hHeld1 => ?_)
      clear hK K hHeld0
      clear hfx0
      generalize wd.heap.size = pA at *
      generalize (wd.alloc (.cells DZ 39)) = wx0 at *
      change wpAnyH _ _ _ _ _ 5 #[true, false, true, false, true, false, false, false] _ _
      refine wpAnyH_ready (rs := [1, 5]) (by kernel_rfl) (by simp) ?_
      refine AllReadyH.cons rfl (fun K hK => ?_) (AllReadyH.cons rfl (fun K hK => ?_) (AllReadyH.nil))
      · simp only [List.getElem_toArray, List.getElem_cons_succ, List.getElem_cons_zero]
        refine (if_pos (by kernel_rfl)).mpr ?_
        go_wp2_with fail
        refine (HDC.out _ (HF2.out.then0 hHeld1)).mono ?_
        rintro e wx1 ⟨s1, n1, c1, m1, rfl, hown0, hfx1⟩
        dsimp only
        have HZ0' := Lib.hid (hfx1.keep HZ0.out (fun h => h))
        clear HZ0
        have HZ0 := HZ0'
        clear HZ0'
        have HO0 := Lib.hid hown0
        clear hown0
        have HB0' : Hid (pA < wx1.heap.size) := Lib.hid (Bk.lt HZ0.out)
        clear HB0
        have HB0 := HB0'
        clear HB0'
        refine hK.out _ _ (hHeld1.then0 hfx1) (fun hHeld2 => ?_)
        clear hK K hHeld1
        clear hfx1
        change wpAnyH _ _ _ _ _ 4 #[true, true, true, false, true, false, false, false] _ _
        refine wpAnyH_ready (rs := [3, 5]) (by kernel_rfl) (by simp) ?_
        refine AllReadyH.cons rfl (fun K hK => ?_) (AllReadyH.cons rfl (fun K hK => ?_) (AllReadyH.nil))
        · simp only [List.getElem_toArray, List.getElem_cons_succ, List.getElem_cons_zero]
          refine (if_pos (by kernel_rfl)).mpr ?_
          go_wp2_with fail
          refine (HDC.out _ (HF2.out.then0 hHeld2)).mono ?_
          rintro e wx2 ⟨s2, n2, c2, m2, rfl, hown1, hfx2⟩
          dsimp only
          have HZ0' := Lib.hid (hfx2.keep HZ0.out (fun h => h))
          clear HZ0
          have HZ0 := HZ0'
          clear HZ0'
          have HO0' := Lib.hid (DV.keep HO0.out hfx2)
          clear HO0
          have HO0 := HO0'
          clear HO0'
          have HO1 := Lib.hid hown1
          clear hown1
          have HB0' : Hid (pA < wx2.heap.size) := Lib.hid (Bk.lt HZ0.out)
          clear HB0
          have HB0 := HB0'
          clear HB0'
          refine hK.out _ _ (hHeld2.then0 hfx2) (fun hHeld3 => ?_)
          clear hK K hHeld2
          clear hfx2
          change wpAnyH _ _ _ _ _ 3 #[true, true, true, true, true, false, false, false] _ _
          refine wpAnyH_ready (rs := [5]) (by kernel_rfl) (by simp) ?_
          refine AllReadyH.cons rfl (fun K hK => ?_) AllReadyH.nil
          simp only [List.getElem_toArray, List.getElem_cons_succ, List.getElem_cons_zero]
          refine (if_pos (by kernel_rfl)).mpr ?_
          go_wp2_with fail
          have hfx3 : Fr (fun _ => False) wx2 (wx2.alloc (.cells DZ 39)) := Fr.alloc (Fr.refl _ _) _
          have HLO1 : Hid (w2.heap.size ≤ wx2.heap.size) := Lib.hid (Fr.size hHeld3)
          have HPQ : Hid (pA ≠ wx2.heap.size) := Lib.hid (by have h1 := Bk.lt HZ0.out; omega)
          have HZ0' := Lib.hid (hfx3.keep HZ0.out (fun h => h))
          clear HZ0
          have HZ0 := HZ0'
          clear HZ0'
          have HO0' := Lib.hid (DV.keep HO0.out hfx3)
          clear HO0
          have HO0 := HO0'
          clear HO0'
          have HO1' := Lib.hid (DV.keep HO1.out hfx3)
          clear HO1
          have HO1 := HO1'
          clear HO1'
          have HZ1 : Hid (Bk (wx2.alloc (.cells DZ 39)) wx2.heap.size DZ 39) := Lib.hid (Bk.new wx2 _)
          have HB1 : Hid (wx2.heap.size < (wx2.alloc (.cells DZ 39)).heap.size) := Lib.hid (Bk.lt HZ1.out)
          have HB0' : Hid (pA < (wx2.alloc (.cells DZ 39)).heap.size) := Lib.hid (Bk.lt HZ0.out)
          clear HB0
          have HB0 := HB0'
          clear HB0'
          refine hK.out _ _ (hHeld3.then0 hfx3) (fun hHeld4 => ?_)
          clear hK K hHeld3
          clear hfx3
          generalize wx2.heap.size = pB at *
          generalize (wx2.alloc (.cells DZ 39)) = wx3 at *
          change wpAnyH _ _ _ _ _ 2 #[true, true, true, true, true, true, false, false] _ _
          refine wpAnyH_ready (rs := [6]) (by kernel_rfl) (by simp) ?_
          refine AllReadyH.cons rfl (fun K hK => ?_) AllReadyH.nil
          simp only [List.getElem_toArray, List.getElem_cons_succ, List.getElem_cons_zero]
          refine (if_pos (by kernel_rfl)).mpr ?_
          refine wp_store_row 39 _ _ rfl pA (dval d s1 n1 c1 m1) rfl rfl 39 DZ HZ0.out (HID.out _ _ _ _) rfl (HDO.out _ _ _ _) ?_
          have hfx4 := Fr.row1 wx3 pA (dval d s1 n1 c1 m1)
          have HO0' := Lib.hid (DV.past HO0.out HOK.out hfx4 HZ0.out DZ_no)
          clear HO0
          have HO0 := HO0'
          clear HO0'
          have HO1' := Lib.hid (DV.past HO1.out HOK.out hfx4 HZ0.out DZ_no)
          clear HO1
          have HO1 := HO1'
          clear HO1'
          have HZ1' := Lib.hid ((show Bk (wx3.setRow pA (dval d s1 n1 c1 m1)) pB DZ 39 from ArrKit.Bk.rowOther HZ1.out _ (HPQ.out.symm)))
          clear HZ1
          have HZ1 := HZ1'
          clear HZ1'
          have HX0' : Hid (Bk (wx3.setRow pA (dval d s1 n1 c1 m1)) pA (dval d s1 n1 c1 m1) 39) := Lib.hid (ArrKit.Bk.row HZ0.out _)
          clear HZ0
          have HZ0 := HX0'
          clear HX0'
          refine hK.out _ _ (ArrKit.Fr.row hHeld4 _ _ (.inl HLO0.out)) (fun hHeld5 => ?_)
          clear hK K hHeld4
          clear hfx4
          generalize (wx3.setRow pA (dval d s1 n1 c1 m1)) = wx4 at *
          change wpAnyH _ _ _ _ _ 1 #[true, true, true, true, true, true, true, false] _ _
          refine wpAnyH_ready (rs := [7]) (by kernel_rfl) (by simp) ?_
          refine AllReadyH.cons rfl (fun K hK => ?_) AllReadyH.nil
          simp only [List.getElem_toArray, List.getElem_cons_succ, List.getElem_cons_zero]
          refine (if_pos (by kernel_rfl)).mpr ?_
          refine wp_store_row 39 _ _ rfl pB (dval d s2 n2 c2 m2) rfl rfl 39 DZ HZ1.out (HID.out _ _ _ _) rfl (HDO.out _ _ _ _) ?_
          have hfx5 := Fr.row1 wx4 pB (dval d s2 n2 c2 m2)
          have HZ0' := Lib.hid ((show Bk (wx4.setRow pB (dval d s2 n2 c2 m2)) pA (dval d s1 n1 c1 m1) 39 from ArrKit.Bk.rowOther HZ0.out _ (HPQ.out)))
          clear HZ0
          have HZ0 := HZ0'
          clear HZ0'
          have HO0' := Lib.hid (DV.past HO0.out HOK.out hfx5 HZ1.out DZ_no)
          clear HO0
          have HO0 := HO0'
          clear HO0'
          have HO1' := Lib.hid (DV.past HO1.out HOK.out hfx5 HZ1.out DZ_no)
          clear HO1
          have HO1 := HO1'
          clear HO1'
          have HX1' : Hid (Bk (wx4.setRow pB (dval d s2 n2 c2 m2)) pB (dval d s2 n2 c2 m2) 39) := Lib.hid (ArrKit.Bk.row HZ1.out _)
          clear HZ1
          have HZ1 := HX1'
          clear HX1'
          refine hK.out _ _ (ArrKit.Fr.row hHeld5 _ _ (.inl HLO1.out)) (fun hHeld6 => ?_)
          clear hK K hHeld5
          clear hfx5
          generalize (wx4.setRow pB (dval d s2 n2 c2 m2)) = wx5 at *
          change wpAnyH _ _ _ _ _ 0 #[true, true, true, true, true, true, true, true] _ _
          refine wpAnyH_done (by kernel_rfl) ?_ _
          refine NoPanic.normal ?_
          have HEND := Lib.hid hHeld6
          clear hHeld6
          exact HREST.out wx5 pA pB s1 n1 c1 m1 s2 n2 c2 m2 HEND.out ⟨HZ0.out, HO0.out⟩ ⟨HZ1.out, HO1.out⟩ HPQ.out HLO0.out HLO1.out
        · simp only [List.getElem_toArray, List.getElem_cons_succ, List.getElem_cons_zero]
          refine (if_pos (by kernel_rfl)).mpr ?_
          go_wp2_with fail
          have hfx2 : Fr (fun _ => False) wx1 (wx1.alloc (.cells DZ 39)) := Fr.alloc (Fr.refl _ _) _
          have HLO1 : Hid (w2.heap.size ≤ wx1.heap.size) := Lib.hid (Fr.size hHeld2)
          have HPQ : Hid (pA ≠ wx1.heap.size) := Lib.hid (by have h1 := Bk.lt HZ0.out; omega)
          have HZ0' := Lib.hid (hfx2.keep HZ0.out (fun h => h))
          clear HZ0
          have HZ0 := HZ0'
          clear HZ0'
          have HO0' := Lib.hid (DV.keep HO0.out hfx2)
          clear HO0
          have HO0 := HO0'
          clear HO0'
          have HZ1 : Hid (Bk (wx1.alloc (.cells DZ 39)) wx1.heap.size DZ 39) := Lib.hid (Bk.new wx1 _)
          have HB1 : Hid (wx1.heap.size < (wx1.alloc (.cells DZ 39)).heap.size) := Lib.hid (Bk.lt HZ1.out)
          have HB0' : Hid (pA < (wx1.alloc (.cells DZ 39)).heap.size) := Lib.hid (Bk.lt HZ0.out)
          clear HB0
          have HB0 := HB0'
          clear HB0'
          refine hK.out _ _ (hHeld2.then0 hfx2) (fun hHeld3 => ?_)
          clear hK K hHeld2
          clear hfx2
          generalize wx1.heap.size = pB at *
          generalize (wx1.alloc (.cells DZ 39)) = wx2 at *
          change wpAnyH _ _ _ _ _ 3 #[true, true, true, false, true, true, false, false] _ _
          refine wpAnyH_ready (rs := [3]) (by kernel_rfl) (by simp) ?_
          refine AllReadyH.cons rfl (fun K hK => ?_) AllReadyH.nil
          simp only [List.getElem_toArray, List.getElem_cons_succ, List.getElem_cons_zero]
          refine (if_pos (by kernel_rfl)).mpr ?_
          go_wp2_with fail
          refine (HDC.out _ (HF2.out.then0 hHeld3)).mono ?_
          rintro e wx3 ⟨s2, n2, c2, m2, rfl, hown1, hfx3⟩
          dsimp only
          have HZ0' := Lib.hid (hfx3.keep HZ0.out (fun h => h))
          clear HZ0
          have HZ0 := HZ0'
          clear HZ0'
          have HO0' := Lib.hid (DV.keep HO0.out hfx3)
          clear HO0
          have HO0 := HO0'
          clear HO0'
          have HZ1' := Lib.hid (hfx3.keep HZ1.out (fun h => h))
          clear HZ1
          have HZ1 := HZ1'
          clear HZ1'
          have HO1 := Lib.hid hown1
          clear hown1
          have HB0' : Hid (pA < wx3.heap.size) := Lib.hid (Bk.lt HZ0.out)
          clear HB0
          have HB0 := HB0'
          clear HB0'
          have HB1' : Hid (pB < wx3.heap.size) := Lib.hid (Bk.lt HZ1.out)
          clear HB1
          have HB1 := HB1'
          clear HB1'
          refine hK.out _ _ (hHeld3.then0 hfx3) (fun hHeld4 => ?_)
          clear hK K hHeld3
          clear hfx3
          change wpAnyH _ _ _ _ _ 2 #[true, true, true, true, true, true, false, false] _ _
          refine wpAnyH_ready (rs := [6]) (by kernel_rfl) (by simp) ?_
          refine AllReadyH.cons rfl (fun K hK => ?_) AllReadyH.nil
          simp only [List.getElem_toArray, List.getElem_cons_succ, List.getElem_cons_zero]
          refine (if_pos (by kernel_rfl)).mpr ?_
          refine wp_store_row 39 _ _ rfl pA (dval d s1 n1 c1 m1) rfl rfl 39 DZ HZ0.out (HID.out _ _ _ _) rfl (HDO.out _ _ _ _) ?_
          have hfx4 := Fr.row1 wx3 pA (dval d s1 n1 c1 m1)
          have HO0' := Lib.hid (DV.past HO0.out HOK.out hfx4 HZ0.out DZ_no)
          clear HO0
          have HO0 := HO0'
          clear HO0'
          have HZ1' := Lib.hid ((show Bk (wx3.setRow pA (dval d s1 n1 c1 m1)) pB DZ 39 from ArrKit.Bk.rowOther HZ1.out _ (HPQ.out.symm)))
          clear HZ1
          have HZ1 := HZ1'
          clear HZ1'
          have HO1' := Lib.hid (DV.past HO1.out HOK.out hfx4 HZ0.out DZ_no)
          clear HO1
          have HO1 := HO1'
          clear HO1'
          have HX0' : Hid (Bk (wx3.setRow pA (dval d s1 n1 c1 m1)) pA (dval d s1 n1 c1 m1) 39) := Lib.hid (ArrKit.Bk.row HZ0.out _)
          clear HZ0
          have HZ0 := HX0'
          clear HX0'
          refine hK.out _ _ (ArrKit.Fr.row hHeld4 _ _ (.inl HLO0.out)) (fun hHeld5 => ?_)
          clear hK K hHeld4
          clear hfx4
          generalize (wx3.setRow pA (dval d s1 n1 c1 m1)) = wx4 at *
          change wpAnyH _ _ _ _ _ 1 #[true, true, true, true, true, true, true, false] _ _
          refine wpAnyH_ready (rs := [7]) (by kernel_rfl) (by simp) ?_
          refine AllReadyH.cons rfl (fun K hK => ?_) AllReadyH.nil
          simp only [List.getElem_toArray, List.getElem_cons_succ, List.getElem_cons_zero]
          refine (if_pos (by kernel_rfl)).mpr ?_
          refine wp_store_row 39 _ _ rfl pB (dval d s2 n2 c2 m2) rfl rfl 39 DZ HZ1.out (HID.out _ _ _ _) rfl (HDO.out _ _ _ _) ?_
          have hfx5 := Fr.row1 wx4 pB (dval d s2 n2 c2 m2)
          have HZ0' := Lib.hid ((show Bk (wx4.setRow pB (dval d s2 n2 c2 m2)) pA (dval d s1 n1 c1 m1) 39 from ArrKit.Bk.rowOther HZ0.out _ (HPQ.out)))
          clear HZ0
          have HZ0 := HZ0'
          clear HZ0'
          have HO0' := Lib.hid (DV.past HO0.out HOK.out hfx5 HZ1.out DZ_no)
          clear HO0
          have HO0 := HO0'
          clear HO0'
          have HO1' := Lib.hid (DV.past HO1.out HOK.out hfx5 HZ1.out DZ_no)
          clear HO1
          have HO1 := HO1'
          clear HO1'
          have HX1' : Hid (Bk (wx4.setRow pB (dval d s2 n2 c2 m2)) pB (dval d s2 n2 c2 m2) 39) := Lib.hid (ArrKit.Bk.row HZ1.out _)
          clear HZ1
          have HZ1 := HX1'
          clear HX1'
          refine hK.out _ _ (ArrKit.Fr.row hHeld5 _ _ (.inl HLO1.out)) (fun hHeld6 => ?_)
          clear hK K hHeld5
          clear hfx5
          generalize (wx4.setRow pB (dval d s2 n2 c2 m2)) = wx5 at *
          change wpAnyH _ _ _ _ _ 0 #[true, true, true, true, true, true, true, true] _ _
          refine wpAnyH_done (by kernel_rfl) ?_ _
          refine NoPanic.normal ?_
          have HEND := Lib.hid hHeld6
          clear hHeld6
          exact HREST.out wx5 pA pB s1 n1 c1 m1 s2 n2 c2 m2 HEND.out ⟨HZ0.out, HO0.out⟩ ⟨HZ1.out, HO1.out⟩ HPQ.out HLO0.out HLO1.out
      · simp only [List.getElem_toArray, List.getElem_cons_succ, List.getElem_cons_zero]
        refine (if_pos (by kernel_rfl)).mpr ?_
        go_wp2_with fail
        have hfx1 : Fr (fun _ => False) wx0 (wx0.alloc (.cells DZ 39)) := Fr.alloc (Fr.refl _ _) _
        have HLO1 : Hid (w2.heap.size ≤ wx0.heap.size) := Lib.hid (Fr.size hHeld1)
        have HPQ : Hid (pA ≠ wx0.heap.size) := Lib.hid (by have h1 := Bk.lt HZ0.out; omega)
        have HZ0' := Lib.hid (hfx1.keep HZ0.out (fun h => h))
        clear HZ0
        have HZ0 := HZ0'
        clear HZ0'
        have HZ1 : Hid (Bk (wx0.alloc (.cells DZ 39)) wx0.heap.size DZ 39) := Lib.hid (Bk.new wx0 _)
        have HB1 : Hid (wx0.heap.size < (wx0.alloc (.cells DZ 39)).heap.size) := Lib.hid (Bk.lt HZ1.out)
        have HB0' : Hid (pA < (wx0.alloc (.cells DZ 39)).heap.size) := Lib.hid (Bk.lt HZ0.out)
        clear HB0
        have HB0 := HB0'
        clear HB0'
        refine hK.out _ _ (hHeld1.then0 hfx1) (fun hHeld2 => ?_)
        clear hK K hHeld1
        clear hfx1
        generalize wx0.heap.size = pB at *
        generalize (wx0.alloc (.cells DZ 39)) = wx1 at *
        change wpAnyH _ _ _ _ _ 4 #[true, false, true, false, true, true, false, false] _ _
        refine wpAnyH_ready (rs := [1]) (by kernel_rfl) (by simp) ?_
        refine AllReadyH.cons rfl (fun K hK => ?_) AllReadyH.nil
        simp only [List.getElem_toArray, List.getElem_cons_succ, List.getElem_cons_zero]
        refine (if_pos (by kernel_rfl)).mpr ?_
        go_wp2_with fail
        refine (HDC.out _ (HF2.out.then0 hHeld2)).mono ?_
        rintro e wx2 ⟨s1, n1, c1, m1, rfl, hown0, hfx2⟩
        dsimp only
        have HZ0' := Lib.hid (hfx2.keep HZ0.out (fun h => h))
        clear HZ0
        have HZ0 := HZ0'
        clear HZ0'
        have HZ1' := Lib.hid (hfx2.keep HZ1.out (fun h => h))
        clear HZ1
        have HZ1 := HZ1'
        clear HZ1'
        have HO0 := Lib.hid hown0
        clear hown0
        have HB0' : Hid (pA < wx2.heap.size) := Lib.hid (Bk.lt HZ0.out)
        clear HB0
        have HB0 := HB0'
        clear HB0'
        have HB1' : Hid (pB < wx2.heap.size) := Lib.hid (Bk.lt HZ1.out)
        clear HB1
        have HB1 := HB1'
        clear HB1'
        refine hK.out _ _ (hHeld2.then0 hfx2) (fun hHeld3 => ?_)
        clear hK K hHeld2
        clear hfx2
        change wpAnyH _ _ _ _ _ 3 #[true, true, true, false, true, true, false, false] _ _
        refine wpAnyH_ready (rs := [3]) (by kernel_rfl) (by simp) ?_
        refine AllReadyH.cons rfl (fun K hK => ?_) AllReadyH.nil
        simp only [List.getElem_toArray, List.getElem_cons_succ, List.getElem_cons_zero]
        refine (if_pos (by kernel_rfl)).mpr ?_
        go_wp2_with fail
        refine (HDC.out _ (HF2.out.then0 hHeld3)).mono ?_
        rintro e wx3 ⟨s2, n2, c2, m2, rfl, hown1, hfx3⟩
        dsimp only
        have HZ0' := Lib.hid (hfx3.keep HZ0.out (fun h => h))
        clear HZ0
        have HZ0 := HZ0'
        clear HZ0'
        have HZ1' := Lib.hid (hfx3.keep HZ1.out (fun h => h))
        clear HZ1
        have HZ1 := HZ1'
        clear HZ1'
        have HO0' := Lib.hid (DV.keep HO0.out hfx3)
        clear HO0
        have HO0 := HO0'
        clear HO0'
        have HO1 := Lib.hid hown1
        clear hown1
        have HB0' : Hid (pA < wx3.heap.size) := Lib.hid (Bk.lt HZ0.out)
        clear HB0
        have HB0 := HB0'
        clear HB0'
        have HB1' : Hid (pB < wx3.heap.size) := Lib.hid (Bk.lt HZ1.out)
        clear HB1
        have HB1 := HB1'
        clear HB1'
        refine hK.out _ _ (hHeld3.then0 hfx3) (fun hHeld4 => ?_)
        clear hK K hHeld3
        clear hfx3
        change wpAnyH _ _ _ _ _ 2 #[true, true, true, true, true, true, false, false] _ _
        refine wpAnyH_ready (rs := [6]) (by kernel_rfl) (by simp) ?_
        refine AllReadyH.cons rfl (fun K hK => ?_) AllReadyH.nil
        simp only [List.getElem_toArray, List.getElem_cons_succ, List.getElem_cons_zero]
        refine (if_pos (by kernel_rfl)).mpr ?_
        refine wp_store_row 39 _ _ rfl pA (dval d s1 n1 c1 m1) rfl rfl 39 DZ HZ0.out (HID.out _ _ _ _) rfl (HDO.out _ _ _ _) ?_
        have hfx4 := Fr.row1 wx3 pA (dval d s1 n1 c1 m1)
        have HZ1' := Lib.hid ((show Bk (wx3.setRow pA (dval d s1 n1 c1 m1)) pB DZ 39 from ArrKit.Bk.rowOther HZ1.out _ (HPQ.out.symm)))
        clear HZ1
        have HZ1 := HZ1'
        clear HZ1'
        have HO0' := Lib.hid (DV.past HO0.out HOK.out hfx4 HZ0.out DZ_no)
        clear HO0
        have HO0 := HO0'
        clear HO0'
        have HO1' := Lib.hid (DV.past HO1.out HOK.out hfx4 HZ0.out DZ_no)
        clear HO1
        have HO1 := HO1'
        clear HO1'
        have HX0' : Hid (Bk (wx3.setRow pA (dval d s1 n1 c1 m1)) pA (dval d s1 n1 c1 m1) 39) := Lib.hid (ArrKit.Bk.row HZ0.out _)
        clear HZ0
        have HZ0 := HX0'
        clear HX0'
        refine hK.out _ _ (ArrKit.Fr.row hHeld4 _ _ (.inl HLO0.out)) (fun hHeld5 => ?_)
        clear hK K hHeld4
        clear hfx4
        generalize (wx3.setRow pA (dval d s1 n1 c1 m1)) = wx4 at *
        change wpAnyH _ _ _ _ _ 1 #[true, true, true, true, true, true, true, false] _ _
        refine wpAnyH_ready (rs := [7]) (by kernel_rfl) (by simp) ?_
        refine AllReadyH.cons rfl (fun K hK => ?_) AllReadyH.nil
        simp only [List.getElem_toArray, List.getElem_cons_succ, List.getElem_cons_zero]
        refine (if_pos (by kernel_rfl)).mpr ?_
        refine wp_store_row 39 _ _ rfl pB (dval d s2 n2 c2 m2) rfl rfl 39 DZ HZ1.out (HID.out _ _ _ _) rfl (HDO.out _ _ _ _) ?_
        have hfx5 := Fr.row1 wx4 pB (dval d s2 n2 c2 m2)
        have HZ0' := Lib.hid ((show Bk (wx4.setRow pB (dval d s2 n2 c2 m2)) pA (dval d s1 n1 c1 m1) 39 from ArrKit.Bk.rowOther HZ0.out _ (HPQ.out)))
        clear HZ0
        have HZ0 := HZ0'
        clear HZ0'
        have HO0' := Lib.hid (DV.past HO0.out HOK.out hfx5 HZ1.out DZ_no)
        clear HO0
        have HO0 := HO0'
        clear HO0'
        have HO1' := Lib.hid (DV.past HO1.out HOK.out hfx5 HZ1.out DZ_no)
        clear HO1
        have HO1 := HO1'
        clear HO1'
        have HX1' : Hid (Bk (wx4.setRow pB (dval d s2 n2 c2 m2)) pB (dval d s2 n2 c2 m2) 39) := Lib.hid (ArrKit.Bk.row HZ1.out _)
        clear HZ1
        have HZ1 := HX1'
        clear HX1'
        refine hK.out _ _ (ArrKit.Fr.row hHeld5 _ _ (.inl HLO1.out)) (fun hHeld6 => ?_)
        clear hK K hHeld5
        clear hfx5
        generalize (wx4.setRow pB (dval d s2 n2 c2 m2)) = wx5 at *
        change wpAnyH _ _ _ _ _ 0 #[true, true, true, true, true, true, true, true] _ _
        refine wpAnyH_done (by kernel_rfl) ?_ _
        refine NoPanic.normal ?_
        have HEND := Lib.hid hHeld6
        clear hHeld6
        exact HREST.out wx5 pA pB s1 n1 c1 m1 s2 n2 c2 m2 HEND.out ⟨HZ0.out, HO0.out⟩ ⟨HZ1.out, HO1.out⟩ HPQ.out HLO0.out HLO1.out
    · simp only [List.getElem_toArray, List.getElem_cons_succ, List.getElem_cons_zero]
      refine (if_pos (by kernel_rfl)).mpr ?_
      go_wp2_with fail
      have hfx0 : Fr (fun _ => False) wd (wd.alloc (.cells DZ 39)) := Fr.alloc (Fr.refl _ _) _
      have HLO1 : Hid (w2.heap.size ≤ wd.heap.size) := Lib.hid (Fr.size hHeld0)
      have HZ1 : Hid (Bk (wd.alloc (.cells DZ 39)) wd.heap.size DZ 39) := Lib.hid (Bk.new wd _)
      have HB1 : Hid (wd.heap.size < (wd.alloc (.cells DZ 39)).heap.size) := Lib.hid (Bk.lt HZ1.out)
      refine hK.out _ _ (hHeld0.then0 hfx0) (fun hHeld1 => ?_)
      clear hK K hHeld0
      clear hfx0
      generalize wd.heap.size = pB at *
      generalize (wd.alloc (.cells DZ 39)) = wx0 at *
      change wpAnyH _ _ _ _ _ 5 #[true, false, true, false, false, true, false, false] _ _
      refine wpAnyH_ready (rs := [1, 4]) (by kernel_rfl) (by simp) ?_
      refine AllReadyH.cons rfl (fun K hK => ?_) (AllReadyH.cons rfl (fun K hK => ?_) (AllReadyH.nil))
      · simp only [List.getElem_toArray, List.getElem_cons_succ, List.getElem_cons_zero]
        refine (if_pos (by kernel_rfl)).mpr ?_
        go_wp2_with fail
        refine (HDC.out _ (HF2.out.then0 hHeld1)).mono ?_
        rintro e wx1 ⟨s1, n1, c1, m1, rfl, hown0, hfx1⟩
        dsimp only
        have HZ1' := Lib.hid (hfx1.keep HZ1.out (fun h => h))
        clear HZ1
        have HZ1 := HZ1'
        clear HZ1'
        have HO0 := Lib.hid hown0
        clear hown0
        have HB1' : Hid (pB < wx1.heap.size) := Lib.hid (Bk.lt HZ1.out)
        clear HB1
        have HB1 := HB1'
        clear HB1'
        refine hK.out _ _ (hHeld1.then0 hfx1) (fun hHeld2 => ?_)
        clear hK K hHeld1
        clear hfx1
        change wpAnyH _ _ _ _ _ 4 #[true, true, true, false, false, true, false, false] _ _
        refine wpAnyH_ready (rs := [3, 4]) (by kernel_rfl) (by simp) ?_
        refine AllReadyH.cons rfl (fun K hK => ?_) (AllReadyH.cons rfl (fun K hK => ?_) (AllReadyH.nil))
        · simp only [List.getElem_toArray, List.getElem_cons_succ, List.getElem_cons_zero]
          refine (if_pos (by kernel_rfl)).mpr ?_
          go_wp2_with fail
          refine (HDC.out _ (HF2.out.then0 hHeld2)).mono ?_
          rintro e wx2 ⟨s2, n2, c2, m2, rfl, hown1, hfx2⟩
          dsimp only
          have HZ1' := Lib.hid (hfx2.keep HZ1.out (fun h => h))
          clear HZ1
          have HZ1 := HZ1'
          clear HZ1'
          have HO0' := Lib.hid (DV.keep HO0.out hfx2)
          clear HO0
          have HO0 := HO0'
          clear HO0'
          have HO1 := Lib.hid hown1
          clear hown1
          have HB1' : Hid (pB < wx2.heap.size) := Lib.hid (Bk.lt HZ1.out)
          clear HB1
          have HB1 := HB1'
          clear HB1'
          refine hK.out _ _ (hHeld2.then0 hfx2) (fun hHeld3 => ?_)
          clear hK K hHeld2
          clear hfx2
          change wpAnyH _ _ _ _ _ 3 #[true, true, true, true, false, true, false, false] _ _
          refine wpAnyH_ready (rs := [4]) (by kernel_rfl) (by simp) ?_
          refine AllReadyH.cons rfl (fun K hK => ?_) AllReadyH.nil
          simp only [List.getElem_toArray, List.getElem_cons_succ, List.getElem_cons_zero]
          refine (if_pos (by kernel_rfl)).mpr ?_
          go_wp2_with fail
          have hfx3 : Fr (fun _ => False) wx2 (wx2.alloc (.cells DZ 39)) := Fr.alloc (Fr.refl _ _) _
          have HLO0 : Hid (w2.heap.size ≤ wx2.heap.size) := Lib.hid (Fr.size hHeld3)
          have HPQ : Hid (wx2.heap.size ≠ pB) := Lib.hid (by have h1 := Bk.lt HZ1.out; omega)
          have HZ1' := Lib.hid (hfx3.keep HZ1.out (fun h => h))
          clear HZ1
          have HZ1 := HZ1'
          clear HZ1'
          have HO0' := Lib.hid (DV.keep HO0.out hfx3)
          clear HO0
          have HO0 := HO0'
          clear HO0'
          have HO1' := Lib.hid (DV.keep HO1.out hfx3)
          clear HO1
          have HO1 := HO1'
          clear HO1'
          have HZ0 : Hid (Bk (wx2.alloc (.cells DZ 39)) wx2.heap.size DZ 39) := Lib.hid (Bk.new wx2 _)
          have HB0 : Hid (wx2.heap.size < (wx2.alloc (.cells DZ 39)).heap.size) := Lib.hid (Bk.lt HZ0.out)
          have HB1' : Hid (pB < (wx2.alloc (.cells DZ 39)).heap.size) := Lib.hid (Bk.lt HZ1.out)
          clear HB1
          have HB1 := HB1'
          clear HB1'
          refine hK.out _ _ (hHeld3.then0 hfx3) (fun hHeld4 => ?_)
          clear hK K hHeld3
          clear hfx3
          generalize wx2.heap.size = pA at *
          generalize (wx2.alloc (.cells DZ 39)) = wx3 at *
          change wpAnyH _ _ _ _ _ 2 #[true, true, true, true, true, true, false, false] _ _
          refine wpAnyH_ready (rs := [6]) (by kernel_rfl) (by simp) ?_
          refine AllReadyH.cons rfl (fun K hK => ?_) AllReadyH.nil
          simp only [List.getElem_toArray, List.getElem_cons_succ, List.getElem_cons_zero]
          refine (if_pos (by kernel_rfl)).mpr ?_
          refine wp_store_row 39 _ _ rfl pA (dval d s1 n1 c1 m1) rfl rfl 39 DZ HZ0.out (HID.out _ _ _ _) rfl (HDO.out _ _ _ _) ?_
          have hfx4 := Fr.row1 wx3 pA (dval d s1 n1 c1 m1)
          have HZ1' := Lib.hid ((show Bk (wx3.setRow pA (dval d s1 n1 c1 m1)) pB DZ 39 from ArrKit.Bk.rowOther HZ1.out _ (HPQ.out.symm)))
          clear HZ1
          have HZ1 := HZ1'
          clear HZ1'
          have HO0' := Lib.hid (DV.past HO0.out HOK.out hfx4 HZ0.out DZ_no)
          clear HO0
          have HO0 := HO0'
          clear HO0'
          have HO1' := Lib.hid (DV.past HO1.out HOK.out hfx4 HZ0.out DZ_no)
          clear HO1
          have HO1 := HO1'
          clear HO1'
          have HX0' : Hid (Bk (wx3.setRow pA (dval d s1 n1 c1 m1)) pA (dval d s1 n1 c1 m1) 39) := Lib.hid (ArrKit.Bk.row HZ0.out _)
          clear HZ0
          have HZ0 := HX0'
          clear HX0'
          refine hK.out _ _ (ArrKit.Fr.row hHeld4 _ _ (.inl HLO0.out)) (fun hHeld5 => ?_)
          clear hK K hHeld4
          clear hfx4
          generalize (wx3.setRow pA (dval d s1 n1 c1 m1)) = wx4 at *
          change wpAnyH _ _ _ _ _ 1 #[true, true, true, true, true, true, true, false] _ _
          refine wpAnyH_ready (rs := [7]) (by kernel_rfl) (by simp) ?_
          refine AllReadyH.cons rfl (fun K hK => ?_) AllReadyH.nil
          simp only [List.getElem_toArray, List.getElem_cons_succ, List.getElem_cons_zero]
          refine (if_pos (by kernel_rfl)).mpr ?_
          refine wp_store_row 39 _ _ rfl pB (dval d s2 n2 c2 m2) rfl rfl 39 DZ HZ1.out (HID.out _ _ _ _) rfl (HDO.out _ _ _ _) ?_
          have hfx5 := Fr.row1 wx4 pB (dval d s2 n2 c2 m2)
          have HO0' := Lib.hid (DV.past HO0.out HOK.out hfx5 HZ1.out DZ_no)
          clear HO0
          have HO0 := HO0'
          clear HO0'
          have HO1' := Lib.hid (DV.past HO1.out HOK.out hfx5 HZ1.out DZ_no)
          clear HO1
          have HO1 := HO1'
          clear HO1'
          have HZ0' := Lib.hid ((show Bk (wx4.setRow pB (dval d s2 n2 c2 m2)) pA (dval d s1 n1 c1 m1) 39 from ArrKit.Bk.rowOther HZ0.out _ (HPQ.out)))
          clear HZ0
          have HZ0 := HZ0'
          clear HZ0'
          have HX1' : Hid (Bk (wx4.setRow pB (dval d s2 n2 c2 m2)) pB (dval d s2 n2 c2 m2) 39) := Lib.hid (ArrKit.Bk.row HZ1.out _)
          clear HZ1
          have HZ1 := HX1'
          clear HX1'
          refine hK.out _ _ (ArrKit.Fr.row hHeld5 _ _ (.inl HLO1.out)) (fun hHeld6 => ?_)
          clear hK K hHeld5
          clear hfx5
          generalize (wx4.setRow pB (dval d s2 n2 c2 m2)) = wx5 at *
          change wpAnyH _ _ _ _ _ 0 #[true, true, true, true, true, true, true, true] _ _
          refine wpAnyH_done (by kernel_rfl) ?_ _
          refine NoPanic.normal ?_
          have HEND := Lib.hid hHeld6
          clear hHeld6
          exact HREST.out wx5 pA pB s1 n1 c1 m1 s2 n2 c2 m2 HEND.out ⟨HZ0.out, HO0.out⟩ ⟨HZ1.out, HO1.out⟩ HPQ.out HLO0.out HLO1.out
        · simp only [List.getElem_toArray, List.getElem_cons_succ, List.getElem_cons_zero]
          refine (if_pos (by kernel_rfl)).mpr ?_
          go_wp2_with fail
          have hfx2 : Fr (fun _ => False) wx1 (wx1.alloc (.cells DZ 39)) := Fr.alloc (Fr.refl _ _) _
          have HLO0 : Hid (w2.heap.size ≤ wx1.heap.size) := Lib.hid (Fr.size hHeld2)
          have HPQ : Hid (wx1.heap.size ≠ pB) := Lib.hid (by have h1 := Bk.lt HZ1.out; omega)
          have HZ1' := Lib.hid (hfx2.keep HZ1.out (fun h => h))
          clear HZ1
          have HZ1 := HZ1'
          clear HZ1'
          have HO0' := Lib.hid (DV.keep HO0.out hfx2)
          clear HO0
          have HO0 := HO0'
          clear HO0'
          have HZ0 : Hid (Bk (wx1.alloc (.cells DZ 39)) wx1.heap.size DZ 39) := Lib.hid (Bk.new wx1 _)
          have HB0 : Hid (wx1.heap.size < (wx1.alloc (.cells DZ 39)).heap.size) := Lib.hid (Bk.lt HZ0.out)
          have HB1' : Hid (pB < (wx1.alloc (.cells DZ 39)).heap.size) := Lib.hid (Bk.lt HZ1.out)
          clear HB1
          have HB1 := HB1'
          clear HB1'
          refine hK.out _ _ (hHeld2.then0 hfx2) (fun hHeld3 => ?_)
          clear hK K hHeld2
          clear hfx2
          generalize wx1.heap.size = pA at *
          generalize (wx1.alloc (.cells DZ 39)) = wx2 at *
          change wpAnyH _ _ _ _ _ 3 #[true, true, true, false, true, true, false, false] _ _
          refine wpAnyH_ready (rs := [3]) (by kernel_rfl) (by simp) ?_
          refine AllReadyH.cons rfl (fun K hK => ?_) AllReadyH.nil
          simp only [List.getElem_toArray, List.getElem_cons_succ, List.getElem_cons_zero]
          refine (if_pos (by kernel_rfl)).mpr ?_
          go_wp2_with fail
          refine (HDC.out _ (HF2.out.then0 hHeld3)).mono ?_
          rintro e wx3 ⟨s2, n2, c2, m2, rfl, hown1, hfx3⟩
          dsimp only
          have HZ1' := Lib.hid (hfx3.keep HZ1.out (fun h => h))
          clear HZ1
          have HZ1 := HZ1'
          clear HZ1'
          have HO0' := Lib.hid (DV.keep HO0.out hfx3)
          clear HO0
          have HO0 := HO0'
          clear HO0'
          have HZ0' := Lib.hid (hfx3.keep HZ0.out (fun h => h))
          clear HZ0
          have HZ0 := HZ0'
          clear HZ0'
          have HO1 := Lib.hid hown1
          clear hown1
          have HB0' : Hid (pA < wx3.heap.size) := Lib.hid (Bk.lt HZ0.out)
          clear HB0
          have HB0 := HB0'
          clear HB0'
          have HB1' : Hid (pB < wx3.heap.size) := Lib.hid (Bk.lt HZ1.out)
          clear HB1
          have HB1 := HB1'
          clear HB1'
          refine hK.out _ _ (hHeld3.then0 hfx3) (fun hHeld4 => ?_)
          clear hK K hHeld3
          clear hfx3
          change wpAnyH _ _ _ _ _ 2 #[true, true, true, true, true, true, false, false] _ _
          refine wpAnyH_ready (rs := [6]) (by kernel_rfl) (by simp) ?_
          refine AllReadyH.cons rfl (fun K hK => ?_) AllReadyH.nil
          simp only [List.getElem_toArray, List.getElem_cons_succ, List.getElem_cons_zero]
          refine (if_pos (by kernel_rfl)).mpr ?_
          refine wp_store_row 39 _ _ rfl pA (dval d s1 n1 c1 m1) rfl rfl 39 DZ HZ0.out (HID.out _ _ _ _) rfl (HDO.out _ _ _ _) ?_
          have hfx4 := Fr.row1 wx3 pA (dval d s1 n1 c1 m1)
          have HZ1' := Lib.hid ((show Bk (wx3.setRow pA (dval d s1 n1 c1 m1)) pB DZ 39 from ArrKit.Bk.rowOther HZ1.out _ (HPQ.out.symm)))
          clear HZ1
          have HZ1 := HZ1'
          clear HZ1'
          have HO0' := Lib.hid (DV.past HO0.out HOK.out hfx4 HZ0.out DZ_no)
          clear HO0
          have HO0 := HO0'
          clear HO0'
          have HO1' := Lib.hid (DV.past HO1.out HOK.out hfx4 HZ0.out DZ_no)
          clear HO1
          have HO1 := HO1'
          clear HO1'
          have HX0' : Hid (Bk (wx3.setRow pA (dval d s1 n1 c1 m1)) pA (dval d s1 n1 c1 m1) 39) := Lib.hid (ArrKit.Bk.row HZ0.out _)
          clear HZ0
          have HZ0 := HX0'
          clear HX0'
          refine hK.out _ _ (ArrKit.Fr.row hHeld4 _ _ (.inl HLO0.out)) (fun hHeld5 => ?_)
          clear hK K hHeld4
          clear hfx4
          generalize (wx3.setRow pA (dval d s1 n1 c1 m1)) = wx4 at *
          change wpAnyH _ _ _ _ _ 1 #[true, true, true, true, true, true, true, false] _ _
          refine wpAnyH_ready (rs := [7]) (by kernel_rfl) (by simp) ?_
          refine AllReadyH.cons rfl (fun K hK => ?_) AllReadyH.nil
          simp only [List.getElem_toArray, List.getElem_cons_succ, List.getElem_cons_zero]
          refine (if_pos (by kernel_rfl)).mpr ?_
          refine wp_store_row 39 _ _ rfl pB (dval d s2 n2 c2 m2) rfl rfl 39 DZ HZ1.out (HID.out _ _ _ _) rfl (HDO.out _ _ _ _) ?_
          have hfx5 := Fr.row1 wx4 pB (dval d s2 n2 c2 m2)
          have HO0' := Lib.hid (DV.past HO0.out HOK.out hfx5 HZ1.out DZ_no)
          clear HO0
          have HO0 := HO0'
          clear HO0'
          have HZ0' := Lib.hid ((show Bk (wx4.setRow pB (dval d s2 n2 c2 m2)) pA (dval d s1 n1 c1 m1) 39 from ArrKit.Bk.rowOther HZ0.out _ (HPQ.out)))
          clear HZ0
          have HZ0 := HZ0'
          clear HZ0'
          have HO1' := Lib.hid (DV.past HO1.out HOK.out hfx5 HZ1.out DZ_no)
          clear HO1
          have HO1 := HO1'
          clear HO1'
          have HX1' : Hid (Bk (wx4.setRow pB (dval d s2 n2 c2 m2)) pB (dval d s2 n2 c2 m2) 39) := Lib.hid (ArrKit.Bk.row HZ1.out _)
          clear HZ1
          have HZ1 := HX1'
          clear HX1'
          refine hK.out _ _ (ArrKit.Fr.row hHeld5 _ _ (.inl HLO1.out)) (fun hHeld6 => ?_)
          clear hK K hHeld5
          clear hfx5
          generalize (wx4.setRow pB (dval d s2 n2 c2 m2)) = wx5 at *
          change wpAnyH _ _ _ _ _ 0 #[true, true, true, true, true, true, true, true] _ _
          refine wpAnyH_done (by kernel_rfl) ?_ _
          refine NoPanic.normal ?_
          have HEND := Lib.hid hHeld6
          clear hHeld6
          exact HREST.out wx5 pA pB s1 n1 c1 m1 s2 n2 c2 m2 HEND.out ⟨HZ0.out, HO0.out⟩ ⟨HZ1.out, HO1.out⟩ HPQ.out HLO0.out HLO1.out
      · simp only [List.getElem_toArray, List.getElem_cons_succ, List.getElem_cons_zero]
        refine (if_pos (by kernel_rfl)).mpr ?_
        go_wp2_with fail
        have hfx1 : Fr (fun _ => False) wx0 (wx0.alloc (.cells DZ 39)) := Fr.alloc (Fr.refl _ _) _
        have HLO0 : Hid (w2.heap.size ≤ wx0.heap.size) := Lib.hid (Fr.size hHeld1)
        have HPQ : Hid (wx0.heap.size ≠ pB) := Lib.hid (by have h1 := Bk.lt HZ1.out; omega)
        have HZ1' := Lib.hid (hfx1.keep HZ1.out (fun h => h))
        clear HZ1
        have HZ1 := HZ1'
        clear HZ1'
        have HZ0 : Hid (Bk (wx0.alloc (.cells DZ 39)) wx0.heap.size DZ 39) := Lib.hid (Bk.new wx0 _)
        have HB0 : Hid (wx0.heap.size < (wx0.alloc (.cells DZ 39)).heap.size) := Lib.hid (Bk.lt HZ0.out)
        have HB1' : Hid (pB < (wx0.alloc (.cells DZ 39)).heap.size) := Lib.hid (Bk.lt HZ1.out)
        clear HB1
        have HB1 := HB1'
        clear HB1'
        refine hK.out _ _ (hHeld1.then0 hfx1) (fun hHeld2 => ?_)
        clear hK K hHeld1
        clear hfx1
        generalize wx0.heap.size = pA at *
        generalize (wx0.alloc (.cells DZ 39)) = wx1 at *
        change wpAnyH _ _ _ _ _ 4 #[true, false, true, false, true, true, false, false] _ _
        refine wpAnyH_ready (rs := [1]) (by kernel_rfl) (by simp) ?_
        refine AllReadyH.cons rfl (fun K hK => ?_) AllReadyH.nil
        simp only [List.getElem_toArray, List.getElem_cons_succ, List.getElem_cons_zero]
        refine (if_pos (by kernel_rfl)).mpr ?_
        go_wp2_with fail
        refine (HDC.out _ (HF2.out.then0 hHeld2)).mono ?_
        rintro e wx2 ⟨s1, n1, c1, m1, rfl, hown0, hfx2⟩
        dsimp only
        have HZ1' := Lib.hid (hfx2.keep HZ1.out (fun h => h))
        clear HZ1
        have HZ1 := HZ1'
        clear HZ1'
        have HZ0' := Lib.hid (hfx2.keep HZ0.out (fun h => h))
        clear HZ0
        have HZ0 := HZ0'
        clear HZ0'
        have HO0 := Lib.hid hown0
        clear hown0
        have HB0' : Hid (pA < wx2.heap.size) := Lib.hid (Bk.lt HZ0.out)
        clear HB0
        have HB0 := HB0'
        clear HB0'
        have HB1' : Hid (pB < wx2.heap.size) := Lib.hid (Bk.lt HZ1.out)
        clear HB1
        have HB1 := HB1'
        clear HB1'
        refine hK.out _ _ (hHeld2.then0 hfx2) (fun hHeld3 => ?_)
        clear hK K hHeld2
        clear hfx2
        change wpAnyH _ _ _ _ _ 3 #[true, true, true, false, true, true, false, false] _ _
        refine wpAnyH_ready (rs := [3]) (by kernel_rfl) (by simp) ?_
        refine AllReadyH.cons rfl (fun K hK => ?_) AllReadyH.nil
        simp only [List.getElem_toArray, List.getElem_cons_succ, List.getElem_cons_zero]
        refine (if_pos (by kernel_rfl)).mpr ?_
        go_wp2_with fail
        refine (HDC.out _ (HF2.out.then0 hHeld3)).mono ?_
        rintro e wx3 ⟨s2, n2, c2, m2, rfl, hown1, hfx3⟩
        dsimp only
        have HZ1' := Lib.hid (hfx3.keep HZ1.out (fun h => h))
        clear HZ1
        have HZ1 := HZ1'
        clear HZ1'
        have HZ0' := Lib.hid (hfx3.keep HZ0.out (fun h => h))
        clear HZ0
        have HZ0 := HZ0'
        clear HZ0'
        have HO0' := Lib.hid (DV.keep HO0.out hfx3)
        clear HO0
        have HO0 := HO0'
        clear HO0'
        have HO1 := Lib.hid hown1
        clear hown1
        have HB0' : Hid (pA < wx3.heap.size) := Lib.hid (Bk.lt HZ0.out)
        clear HB0
        have HB0 := HB0'
        clear HB0'
        have HB1' : Hid (pB < wx3.heap.size) := Lib.hid (Bk.lt HZ1.out)
        clear HB1
        have HB1 := HB1'
        clear HB1'
        refine hK.out _ _ (hHeld3.then0 hfx3) (fun hHeld4 => ?_)
        clear hK K hHeld3
        clear hfx3
        change wpAnyH _ _ _ _ _ 2 #[true, true, true, true, true, true, false, false] _ _
        refine wpAnyH_ready (rs := [6]) (by kernel_rfl) (by simp) ?_
        refine AllReadyH.cons rfl (fun K hK => ?_) AllReadyH.nil
        simp only [List.getElem_toArray, List.getElem_cons_succ, List.getElem_cons_zero]
        refine (if_pos (by kernel_rfl)).mpr ?_
        refine wp_store_row 39 _ _ rfl pA (dval d s1 n1 c1 m1) rfl rfl 39 DZ HZ0.out (HID.out _ _ _ _) rfl (HDO.out _ _ _ _) ?_
        have hfx4 := Fr.row1 wx3 pA (dval d s1 n1 c1 m1)
        have HZ1' := Lib.hid ((show Bk (wx3.setRow pA (dval d s1 n1 c1 m1)) pB DZ 39 from ArrKit.Bk.rowOther HZ1.out _ (HPQ.out.symm)))
        clear HZ1
        have HZ1 := HZ1'
        clear HZ1'
        have HO0' := Lib.hid (DV.past HO0.out HOK.out hfx4 HZ0.out DZ_no)
        clear HO0
        have HO0 := HO0'
        clear HO0'
        have HO1' := Lib.hid (DV.past HO1.out HOK.out hfx4 HZ0.out DZ_no)
        clear HO1
        have HO1 := HO1'
        clear HO1'
        have HX0' : Hid (Bk (wx3.setRow pA (dval d s1 n1 c1 m1)) pA (dval d s1 n1 c1 m1) 39) := Lib.hid (ArrKit.Bk.row HZ0.out _)
        clear HZ0
        have HZ0 := HX0'
        clear HX0'
        refine hK.out _ _ (ArrKit.Fr.row hHeld4 _ _ (.inl HLO0.out)) (fun hHeld5 => ?_)
        clear hK K hHeld4
        clear hfx4
        generalize (wx3.setRow pA (dval d s1 n1 c1 m1)) = wx4 at *
        change wpAnyH _ _ _ _ _ 1 #[true, true, true, true, true, true, true, false] _ _
        refine wpAnyH_ready (rs := [7]) (by kernel_rfl) (by simp) ?_
        refine AllReadyH.cons rfl (fun K hK => ?_) AllReadyH.nil
        simp only [List.getElem_toArray, List.getElem_cons_succ, List.getElem_cons_zero]
        refine (if_pos (by kernel_rfl)).mpr ?_
        refine wp_store_row 39 _ _ rfl pB (dval d s2 n2 c2 m2) rfl rfl 39 DZ HZ1.out (HID.out _ _ _ _) rfl (HDO.out _ _ _ _) ?_
        have hfx5 := Fr.row1 wx4 pB (dval d s2 n2 c2 m2)
        have HZ0' := Lib.hid ((show Bk (wx4.setRow pB (dval d s2 n2 c2 m2)) pA (dval d s1 n1 c1 m1) 39 from ArrKit.Bk.rowOther HZ0.out _ (HPQ.out)))
        clear HZ0
        have HZ0 := HZ0'
        clear HZ0'
        have HO0' := Lib.hid (DV.past HO0.out HOK.out hfx5 HZ1.out DZ_no)
        clear HO0
        have HO0 := HO0'
        clear HO0'
        have HO1' := Lib.hid (DV.past HO1.out HOK.out hfx5 HZ1.out DZ_no)
        clear HO1
        have HO1 := HO1'
        clear HO1'
        have HX1' : Hid (Bk (wx4.setRow pB (dval d s2 n2 c2 m2)) pB (dval d s2 n2 c2 m2) 39) := Lib.hid (ArrKit.Bk.row HZ1.out _)
        clear HZ1
        have HZ1 := HX1'
        clear HX1'
        refine hK.out _ _ (ArrKit.Fr.row hHeld5 _ _ (.inl HLO1.out)) (fun hHeld6 => ?_)
        clear hK K hHeld5
        clear hfx5
        generalize (wx4.setRow pB (dval d s2 n2 c2 m2)) = wx5 at *
        change wpAnyH _ _ _ _ _ 0 #[true, true, true, true, true, true, true, true] _ _
        refine wpAnyH_done (by kernel_rfl) ?_ _
        refine NoPanic.normal ?_
        have HEND := Lib.hid hHeld6
        clear hHeld6
        exact HREST.out wx5 pA pB s1 n1 c1 m1 s2 n2 c2 m2 HEND.out ⟨HZ0.out, HO0.out⟩ ⟨HZ1.out, HO1.out⟩ HPQ.out HLO0.out HLO1.out

end Go.Proofs.YtlleandelcjhjaaDoor.RmReadsLaw
