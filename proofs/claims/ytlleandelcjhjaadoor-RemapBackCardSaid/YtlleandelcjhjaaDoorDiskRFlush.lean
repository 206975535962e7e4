/- A disk flushed, and crashed: the walks of the reference's Flush and Crash. -/
import Derived.Test.YtlleandelcjhjaaDoorDiskRLay
set_option linter.unusedVariables false
set_option linter.unusedSimpArgs false
namespace Go.Proofs.YtlleandelcjhjaaDoor.DiskRFlush
open Go Go.RowKit Go.Proofs.YtlleandelcjhjaaDoor.K Go.Proofs.YtlleandelcjhjaaDoor.EqKit Go.Proofs.YtlleandelcjhjaaDoor.ArrKit Go.Proofs.YtlleandelcjhjaaDoor.HeldKit Go.Proofs.YtlleandelcjhjaaDoor.GKit Go.Proofs.YtlleandelcjhjaaDoor.GRow Go.Proofs.YtlleandelcjhjaaDoor.DiskKit Go.Proofs.YtlleandelcjhjaaDoor.DiskAsk Go.Proofs.YtlleandelcjhjaaDoor.DiskForm Go.Proofs.YtlleandelcjhjaaDoor.DiskAct Go.Proofs.YtlleandelcjhjaaDoor.DiskNew Go.Proofs.YtlleandelcjhjaaDoor.DiskCopy Go.Proofs.YtlleandelcjhjaaDoor.DiskLay Go.Proofs.YtlleandelcjhjaaDoor.DiskFlush Go.Proofs.YtlleandelcjhjaaDoor.DiskRLay

set_option maxHeartbeats 2000000 in
set_option maxRecDepth 100000 in
theorem rflush_wrong (p : Nat) (d : Dk) (sa : Option Addr) (sc : Nat) (ca : Option Addr) (cc : Nat) (w : World) (hok : d.ok) (hv : DAt w p d sa sc ca cc) (hr : formedB d = false) : Calls Tryd.prog 53 #[.pointer (some ⟨p, 0, none⟩)] w fun e w' => e = .returned (.int .i64 1) ∧ Now w w' p d := by
  have HRI := Lib.hid (rformed_calls d sa sc ca cc w hv.v)
  rw [hr] at HRI
  have HV := Lib.hid hv
  clear hv hok hr
  go_enter Tryd.func53, Tryd.ntmps53
  go_wp2_with (first | ((with_reducible show wpList _ _ _ ({ dst := _, op := Op.load 39 _, type := _, pos := _, after := _, guard := _ } :: _) _ _); refine wpList_load_row_g (by rfl) 39 _ rfl p rfl 39 _ (0, 0) _ HV.out.blk Tryd.underlying39 rfl info_d ?_) | (go_at_call 71; (with_reducible refine (HRI.out).mono ?_); rintro e w2 ⟨rfl, hf2⟩; have HF2 := Lib.hid hf2; clear hf2))
  go_ret
  exact ⟨rfl, Now.same HV.out HF2.out⟩
set_option maxHeartbeats 2000000 in
set_option maxRecDepth 100000 in
theorem rflush_down (p : Nat) (d : Dk) (sa : Option Addr) (sc : Nat) (ca : Option Addr) (cc : Nat) (w : World) (hok : d.ok) (hv : DAt w p d sa sc ca cc) (hr : formedB d = true) (ha : actE d = 3) : Calls Tryd.prog 53 #[.pointer (some ⟨p, 0, none⟩)] w fun e w' => e = .returned (.int .i64 3) ∧ Now w w' p (actD d) := by
  have HRI := Lib.hid (rformed_calls d sa sc ca cc w hv.v)
  rw [hr] at HRI
  have HSP := Lib.hid (fun W (h : Fr0 w W) => act_calls p d sa sc ca cc W hok (hv.keep h))
  rw [ha] at HSP
  have HV := Lib.hid hv
  clear hv hok hr ha
  go_enter Tryd.func53, Tryd.ntmps53
  go_wp2_with (first | ((with_reducible show wpList _ _ _ ({ dst := _, op := Op.load 39 _, type := _, pos := _, after := _, guard := _ } :: _) _ _); refine wpList_load_row_g (by rfl) 39 _ rfl p rfl 39 _ (0, 0) _ HV.out.blk Tryd.underlying39 rfl info_d ?_) | (go_at_call 71; (with_reducible refine (HRI.out).mono ?_); rintro e w2 ⟨rfl, hf2⟩; have HF2 := Lib.hid hf2; clear hf2) | (go_at_call 78; (with_reducible refine (HSP.out _ HF2.out).mono ?_); rintro e w3 ⟨rfl, hf3⟩; have HA3 := Lib.hid hf3; clear hf3))
  go_ret
  exact ⟨rfl, Laid.now (d' := d) HF2.out HA3.out⟩
set_option maxHeartbeats 2000000 in
set_option maxRecDepth 100000 in
theorem rflush_good (p : Nat) (d : Dk) (sa : Option Addr) (sc : Nat) (ca : Option Addr) (cc : Nat) (w : World) (hok : d.ok) (hv : DAt w p d sa sc ca cc) (hr : formedB d = true) (ha : actE d = 0) : Calls Tryd.prog 53 #[.pointer (some ⟨p, 0, none⟩)] w fun e w' => e = .returned (.int .i64 0) ∧ Now w w' p (layD (actD d) (fun _ => true)) := by
  have HRI := Lib.hid (rformed_calls d sa sc ca cc w hv.v)
  rw [hr] at HRI
  have HSP := Lib.hid (fun W (h : Fr0 w W) => act_calls p d sa sc ca cc W hok (hv.keep h))
  rw [ha] at HSP
  have HV := Lib.hid hv
  have HLA := Lib.hid (fun W (h : DAt W p (actD d) sa sc ca cc) => rlay_all_calls p (actD d) sa sc ca cc W (actD_ok hok) h (formed_act.trans hr))
  clear hv hok hr ha
  go_enter Tryd.func53, Tryd.ntmps53
  go_wp2_with (first | ((with_reducible show wpList _ _ _ ({ dst := _, op := Op.load 39 _, type := _, pos := _, after := _, guard := _ } :: _) _ _); refine wpList_load_row_g (by rfl) 39 _ rfl p rfl 39 _ (0, 0) _ HV.out.blk Tryd.underlying39 rfl info_d ?_) | (go_at_call 71; (with_reducible refine (HRI.out).mono ?_); rintro e w2 ⟨rfl, hf2⟩; have HF2 := Lib.hid hf2; clear hf2) | (go_at_call 78; (with_reducible refine (HSP.out _ HF2.out).mono ?_); rintro e w3 ⟨rfl, hf3⟩; have HA3 := Lib.hid hf3; clear hf3) | (go_at_call 79; (with_reducible refine (HLA.out _ HA3.out.at_).mono ?_); rintro e w4 ⟨⟨v4, rfl⟩, hf4⟩; have HA4 := Lib.hid hf4; clear hf4))
  go_ret
  exact ⟨rfl, Laid.fr1 ((HF2.out.weaken (fun _ _ h => h.elim)).trans HA3.out.fr) HA4.out⟩
/-- FLUSH: what the reference's Flush does. -/
theorem rflush_calls (p : Nat) (d : Dk) (sa : Option Addr) (sc : Nat) (ca : Option Addr) (cc : Nat) (w : World) (hok : d.ok) (hv : DAt w p d sa sc ca cc) : Calls Tryd.prog 53 #[.pointer (some ⟨p, 0, none⟩)] w fun e w' => e = .returned (.int .i64 (flushE d)) ∧ Now w w' p (flushD d) := by
  unfold flushE flushD
  rw [right0]
  cases hr : formedB d with
  | false => rw [if_pos rfl, if_pos rfl]; exact rflush_wrong p d sa sc ca cc w hok hv hr
  | true =>
    rw [if_neg (by simp), if_neg (by simp)]
    rcases actE_cases d with ha | ha
    · rw [if_pos ha, ha]; exact rflush_down p d sa sc ca cc w hok hv hr ha
    · rw [if_neg (by omega), ha]; exact rflush_good p d sa sc ca cc w hok hv hr ha
end Go.Proofs.YtlleandelcjhjaaDoor.DiskRFlush
