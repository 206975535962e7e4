/- RemapTakes, walked. -/
import Derived.Test.YtlleandelcjhjaaDoorRmTake
import Derived.Test.YtlleandelcjhjaaDoorRmAlive
set_option maxRecDepth 100000
set_option linter.unusedVariables false
set_option linter.unusedSimpArgs false
namespace Go.Proofs.YtlleandelcjhjaaDoor.RmTakesLaw
open Go Go.RowKit Go.Proofs.YtlleandelcjhjaaDoor.K Go.Proofs.YtlleandelcjhjaaDoor.EqKit Go.Proofs.YtlleandelcjhjaaDoor.ArrKit Go.Proofs.YtlleandelcjhjaaDoor.HeldKit Go.Proofs.YtlleandelcjhjaaDoor.GKit Go.Proofs.YtlleandelcjhjaaDoor.GRow Go.Proofs.YtlleandelcjhjaaDoor.DiskKit Go.Proofs.YtlleandelcjhjaaDoor.RmKit Go.Proofs.YtlleandelcjhjaaDoor.MapKit Go.Proofs.YtlleandelcjhjaaDoor.DiskRRead Go.Proofs.YtlleandelcjhjaaDoor.RmRight Go.Proofs.YtlleandelcjhjaaDoor.RmRRight Go.Proofs.YtlleandelcjhjaaDoor.RmTab Go.Proofs.YtlleandelcjhjaaDoor.RmPut Go.Proofs.YtlleandelcjhjaaDoor.RmRPut Go.Proofs.YtlleandelcjhjaaDoor.RmSame Go.Proofs.YtlleandelcjhjaaDoor.RmAlive Go.Proofs.YtlleandelcjhjaaDoor.RowG Go.Proofs.YtlleandelcjhjaaDoor.RmTake

theorem takP_short {l : List UInt8} {s : Int} : (takX l s).ps.length ≤ 8796093022208 := by
  unfold takX
  split
  · rename_i h
    unfold takB at h
    simp only [Bool.and_eq_true, decide_eq_true_eq] at h
    show (takP l).length ≤ _
    rw [takP_len]
    omega
  · exact Nat.zero_le _
set_option maxHeartbeats 2000000 in
set_option maxRecDepth 100000 in
theorem takes_all (l : List UInt8) (s : Int) (w : World) (hl : l.length = 128) (hs : (Lit.int .i64 s).wf = true) (hsh : Sh w) : Calls Tryd.prog 6 #[.agg (l.map B).toArray, .int .i64 s] w fun e w' => e = .returned (.bool true) ∧ Fr0 w w' := by
  have HX0 : Hid (Bk (w.alloc (.cells (l.map B).toArray 27)) w.heap.size (l.map B).toArray 27) := Lib.hid (Bk.new w _)
  have HF0 : Hid (Fr0 w (w.alloc (.cells (l.map B).toArray 27))) := Lib.hid (Fr.alloc (Fr.refl _ _) _)
  have HAL : Hid (∀ W, Fr0 w W → Calls Tryd.prog 9 #[] W fun e w' => e = .returned (.bool true) ∧ Fr0 W w') := Lib.hid (fun W f => alive_calls W (hsh.keep0 f))
  have HTA : Hid (∀ W, Fr0 w W → Calls Tryd.prog 27 #[.agg (l.map B).toArray, .int .i64 s] W fun e w' => ∃ a c, e = .returned (.tuple #[.agg (rval (takX l s) a c), .int .i64 (takE l s)]) ∧ RV w' (takX l s) a c ∧ Fr0 W w') := Lib.hid (fun W f => RmTake.take_calls l s W hl hs (hsh.keep0 f))
  have HRT : Hid (∀ W, Fr0 w W → Calls Tryd.prog 28 #[.agg (l.map B).toArray, .int .i64 s] W fun e w' => ∃ a c, e = .returned (.tuple #[.agg (rval (takX l s) a c), .int .i64 (takE l s)]) ∧ RV w' (takX l s) a c ∧ Fr0 W w') := Lib.hid (fun W f => RmTake.rtake_calls l s W hl hs (hsh.keep0 f))
  have hok := takX_ok l s
  have HSA : Hid (∀ a c b d W, RV W (takX l s) a c → RV W (takX l s) b d → Calls Tryd.prog 19 #[.agg (rval (takX l s) a c), .agg (rval (takX l s) b d)] W fun e w' => e = .returned (.bool true) ∧ Fr0 W w') := Lib.hid (fun a c b d W h h' => by have := rmsame_calls (takX l s) (takX l s) a b c d W hok hok h h' takP_short; rwa [decide_eq_true ⟨rfl, rfl⟩] at this)
  have HIN : Hid (∀ g v, (Tryd.prog.info? 24).map (·.size) = some (RC g v).size) := Lib.hid (fun _ _ => info_r _ _)
  have HIB := Lib.hid (info_l hl)
  have hzr := zero_r
  clear hok hl hs hsh
  generalize takX l s = m at *
  generalize takE l s = ee at *
  have hee : (ee == ee) = true := beq_self_eq_true _
  go_enter Tryd.func6, Tryd.ntmps6
  go_wp2_with (first | (go_at_call 9; (with_reducible refine (HAL.out _ HF0.out).mono ?_); rintro e w1 ⟨rfl, hf1⟩; have HF1 := Lib.hid (HF0.out.then0 hf1); have HX1 := Lib.hid (hf1.keep HX0.out (fun h => h)); clear hf1) | ((with_reducible show wpList _ _ _ ({ dst := _, op := Op.load 27 _, type := _, pos := _, after := _, guard := _ } :: _) _ _); refine wpList_load_row_g (by rfl) 27 _ rfl w.heap.size rfl 27 _ (0, 0) _ HX3.out Tryd.underlying27 rfl HIB.out ?_) | ((with_reducible show wpList _ _ _ ({ dst := _, op := Op.load 27 _, type := _, pos := _, after := _, guard := _ } :: _) _ _); refine wpList_load_row_g (by rfl) 27 _ rfl w.heap.size rfl 27 _ (0, 0) _ HX1.out Tryd.underlying27 rfl HIB.out ?_) | (go_at_call 27; (with_reducible refine (HTA.out _ HF1.out).mono ?_); rintro e w2 ⟨a1, c1, rfl, hv_, hf_⟩; have HZw2 := Lib.hid (Bk.new w2 (.cells RZ 24)); have hfx : Fr0 _ ((w2.alloc (.cells RZ 24)).setRow w2.heap.size (rval m a1 c1)) := hf_.then0 (ArrKit.Fr.row (Fr.alloc (Fr.refl _ _) _) _ _ (.inl (Nat.le_refl _))); have HF3 := Lib.hid (HF1.out.then0 hfx); have HX3 := Lib.hid (hfx.keep HX1.out (fun h => h)); have HB13 : Hid (Bk ((w2.alloc (.cells RZ 24)).setRow w2.heap.size (rval m a1 c1)) w2.heap.size (rval m a1 c1) 24) := Lib.hid (ArrKit.Bk.row HZw2.out _); have HV13 : Hid (RV ((w2.alloc (.cells RZ 24)).setRow w2.heap.size (rval m a1 c1)) m a1 c1) := Lib.hid (hv_.keep (ArrKit.Fr.row (Fr.alloc (Fr.refl _ _) _) _ _ (.inl (Nat.le_refl _)))); clear hfx hf_ hv_) | ((with_reducible show wpList _ _ _ ({ dst := _, op := Op.store 24 _ _, type := _, pos := _, after := _, guard := _ } :: _) _ _); refine wpList_store_row rfl 24 _ _ rfl w2.heap.size (rval m a1 c1) rfl rfl 24 RZ HZw2.out (HIN.out _ _) rfl (RC_all _ _ _ _) ?_) | (go_at_call 28; (with_reducible refine (HRT.out _ HF3.out).mono ?_); rintro e w4 ⟨a2, c2, rfl, hv_, hf_⟩; have HZw4 := Lib.hid (Bk.new w4 (.cells RZ 24)); have hfx : Fr0 _ ((w4.alloc (.cells RZ 24)).setRow w4.heap.size (rval m a2 c2)) := hf_.then0 (ArrKit.Fr.row (Fr.alloc (Fr.refl _ _) _) _ _ (.inl (Nat.le_refl _))); have HF5 := Lib.hid (HF3.out.then0 hfx); have HX5 := Lib.hid (hfx.keep HX3.out (fun h => h)); have HB15 := Lib.hid (hfx.keep HB13.out (fun h => h)); have HV15 := Lib.hid (HV13.out.keep hfx); have HB25 : Hid (Bk ((w4.alloc (.cells RZ 24)).setRow w4.heap.size (rval m a2 c2)) w4.heap.size (rval m a2 c2) 24) := Lib.hid (ArrKit.Bk.row HZw4.out _); have HV25 : Hid (RV ((w4.alloc (.cells RZ 24)).setRow w4.heap.size (rval m a2 c2)) m a2 c2) := Lib.hid (hv_.keep (ArrKit.Fr.row (Fr.alloc (Fr.refl _ _) _) _ _ (.inl (Nat.le_refl _)))); clear hfx hf_ hv_) | ((with_reducible show wpList _ _ _ ({ dst := _, op := Op.store 24 _ _, type := _, pos := _, after := _, guard := _ } :: _) _ _); refine wpList_store_row rfl 24 _ _ rfl w4.heap.size (rval m a2 c2) rfl rfl 24 RZ HZw4.out (HIN.out _ _) rfl (RC_all _ _ _ _) ?_) | ((with_reducible show wpList _ _ _ ({ dst := _, op := Op.load 24 _, type := _, pos := _, after := _, guard := _ } :: _) _ _); refine wpList_load_row_g (by rfl) 24 _ rfl w2.heap.size rfl 24 _ (0, 0) _ HB15.out Tryd.underlying24 rfl (HIN.out _ _) ?_) | ((with_reducible show wpList _ _ _ ({ dst := _, op := Op.load 24 _, type := _, pos := _, after := _, guard := _ } :: _) _ _); refine wpList_load_row_g (by rfl) 24 _ rfl w4.heap.size rfl 24 _ (0, 0) _ HB25.out Tryd.underlying24 rfl (HIN.out _ _) ?_) | (go_at_call 19; (with_reducible refine (HSA.out _ _ _ _ _ HV15.out HV25.out).mono ?_); rintro e w6 ⟨rfl, hf6⟩; have HF6 := Lib.hid (HF5.out.then0 hf6); clear hf6))
  go_ret
  exact ⟨rfl, HF6.out⟩

end Go.Proofs.YtlleandelcjhjaaDoor.RmTakesLaw
