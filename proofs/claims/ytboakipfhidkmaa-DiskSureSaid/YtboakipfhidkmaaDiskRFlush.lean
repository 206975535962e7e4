/- A disk flushed, and crashed: the walks of the reference's Flush and Crash. -/
import Derived.Test.YtboakipfhidkmaaDiskRLay
set_option linter.unusedVariables false
set_option linter.unusedSimpArgs false
namespace Go.Proofs.Ytboakipfhidkmaa.DiskRFlush
open Go Go.RowKit Go.Proofs.Ytboakipfhidkmaa.K Go.Proofs.Ytboakipfhidkmaa.EqKit Go.Proofs.Ytboakipfhidkmaa.ArrKit Go.Proofs.Ytboakipfhidkmaa.HeldKit Go.Proofs.Ytboakipfhidkmaa.GKit Go.Proofs.Ytboakipfhidkmaa.GRow Go.Proofs.Ytboakipfhidkmaa.DiskKit Go.Proofs.Ytboakipfhidkmaa.DiskAsk Go.Proofs.Ytboakipfhidkmaa.DiskForm Go.Proofs.Ytboakipfhidkmaa.DiskAct Go.Proofs.Ytboakipfhidkmaa.DiskNew Go.Proofs.Ytboakipfhidkmaa.DiskCopy Go.Proofs.Ytboakipfhidkmaa.DiskLay Go.Proofs.Ytboakipfhidkmaa.DiskFlush Go.Proofs.Ytboakipfhidkmaa.DiskRLay

set_option maxHeartbeats 2000000 in
set_option maxRecDepth 100000 in
theorem rflush_wrong (p : Nat) (d : Dk) (sa : Option Addr) (sc : Nat) (ca : Option Addr) (cc : Nat) (w : World) (hok : d.ok) (hv : DAt w p d sa sc ca cc) (hr : formedB d = false) : Calls Try.prog 25 #[.pointer (some ⟨p, 0, none⟩)] w fun e w' => e = .returned (.int .i64 1) ∧ Now w w' p d := by
  have HRI := Lib.hid (rformed_calls d sa sc ca cc w hv.v)
  rw [hr] at HRI
  have HV := Lib.hid hv
  clear hv hok hr
  go_enter Try.func25, Try.ntmps25
  go_wp2_with (first | ((with_reducible show wpList _ _ _ ({ dst := _, op := Op.load 25 _, type := _, pos := _, after := _, guard := _ } :: _) _ _); refine wpList_load_row_g (by rfl) 25 _ rfl p rfl 25 _ (0, 0) _ HV.out.blk Try.underlying25 rfl info_d ?_) | (go_at_call 17; (with_reducible refine (HRI.out).mono ?_); rintro e w2 ⟨rfl, hf2⟩; have HF2 := Lib.hid hf2; clear hf2))
  go_ret
  exact ⟨rfl, Now.same HV.out HF2.out⟩
set_option maxHeartbeats 2000000 in
set_option maxRecDepth 100000 in
theorem rflush_down (p : Nat) (d : Dk) (sa : Option Addr) (sc : Nat) (ca : Option Addr) (cc : Nat) (w : World) (hok : d.ok) (hv : DAt w p d sa sc ca cc) (hr : formedB d = true) (ha : actE d = 3) : Calls Try.prog 25 #[.pointer (some ⟨p, 0, none⟩)] w fun e w' => e = .returned (.int .i64 3) ∧ Now w w' p (actD d) := by
  have HRI := Lib.hid (rformed_calls d sa sc ca cc w hv.v)
  rw [hr] at HRI
  have HSP := Lib.hid (fun W (h : Fr0 w W) => act_calls p d sa sc ca cc W hok (hv.keep h))
  rw [ha] at HSP
  have HV := Lib.hid hv
  clear hv hok hr ha
  go_enter Try.func25, Try.ntmps25
  go_wp2_with (first | ((with_reducible show wpList _ _ _ ({ dst := _, op := Op.load 25 _, type := _, pos := _, after := _, guard := _ } :: _) _ _); refine wpList_load_row_g (by rfl) 25 _ rfl p rfl 25 _ (0, 0) _ HV.out.blk Try.underlying25 rfl info_d ?_) | (go_at_call 17; (with_reducible refine (HRI.out).mono ?_); rintro e w2 ⟨rfl, hf2⟩; have HF2 := Lib.hid hf2; clear hf2) | (go_at_call 36; (with_reducible refine (HSP.out _ HF2.out).mono ?_); rintro e w3 ⟨rfl, hf3⟩; have HA3 := Lib.hid hf3; clear hf3))
  go_ret
  exact ⟨rfl, Laid.now (d' := d) HF2.out HA3.out⟩
set_option maxHeartbeats 2000000 in
set_option maxRecDepth 100000 in
theorem rflush_good (p : Nat) (d : Dk) (sa : Option Addr) (sc : Nat) (ca : Option Addr) (cc : Nat) (w : World) (hok : d.ok) (hv : DAt w p d sa sc ca cc) (hr : formedB d = true) (ha : actE d = 0) : Calls Try.prog 25 #[.pointer (some ⟨p, 0, none⟩)] w fun e w' => e = .returned (.int .i64 0) ∧ Now w w' p (layD (actD d) (fun _ => true)) := by
  have HRI := Lib.hid (rformed_calls d sa sc ca cc w hv.v)
  rw [hr] at HRI
  have HSP := Lib.hid (fun W (h : Fr0 w W) => act_calls p d sa sc ca cc W hok (hv.keep h))
  rw [ha] at HSP
  have HV := Lib.hid hv
  have HLA := Lib.hid (fun W (h : DAt W p (actD d) sa sc ca cc) => rlay_all_calls p (actD d) sa sc ca cc W (actD_ok hok) h (formed_act.trans hr))
  clear hv hok hr ha
  go_enter Try.func25, Try.ntmps25
  go_wp2_with (first | ((with_reducible show wpList _ _ _ ({ dst := _, op := Op.load 25 _, type := _, pos := _, after := _, guard := _ } :: _) _ _); refine wpList_load_row_g (by rfl) 25 _ rfl p rfl 25 _ (0, 0) _ HV.out.blk Try.underlying25 rfl info_d ?_) | (go_at_call 17; (with_reducible refine (HRI.out).mono ?_); rintro e w2 ⟨rfl, hf2⟩; have HF2 := Lib.hid hf2; clear hf2) | (go_at_call 36; (with_reducible refine (HSP.out _ HF2.out).mono ?_); rintro e w3 ⟨rfl, hf3⟩; have HA3 := Lib.hid hf3; clear hf3) | (go_at_call 39; (with_reducible refine (HLA.out _ HA3.out.at_).mono ?_); rintro e w4 ⟨⟨v4, rfl⟩, hf4⟩; have HA4 := Lib.hid hf4; clear hf4))
  go_ret
  exact ⟨rfl, Laid.fr1 ((HF2.out.weaken (fun _ _ h => h.elim)).trans HA3.out.fr) HA4.out⟩
/-- FLUSH: what the reference's Flush does. -/
theorem rflush_calls (p : Nat) (d : Dk) (sa : Option Addr) (sc : Nat) (ca : Option Addr) (cc : Nat) (w : World) (hok : d.ok) (hv : DAt w p d sa sc ca cc) : Calls Try.prog 25 #[.pointer (some ⟨p, 0, none⟩)] w fun e w' => e = .returned (.int .i64 (flushE d)) ∧ Now w w' p (flushD d) := by
  unfold flushE flushD
  rw [right0]
  cases hr : formedB d with
  | false => rw [if_pos rfl, if_pos rfl]; exact rflush_wrong p d sa sc ca cc w hok hv hr
  | true =>
    rw [if_neg (by simp), if_neg (by simp)]
    rcases actE_cases d with ha | ha
    · rw [if_pos ha, ha]; exact rflush_down p d sa sc ca cc w hok hv hr ha
    · rw [if_neg (by omega), ha]; exact rflush_good p d sa sc ca cc w hok hv hr ha
set_option maxHeartbeats 2000000 in
set_option maxRecDepth 100000 in
theorem rcrash_wrong (p : Nat) (ka : Option Addr) (kc : Nat) (keep : List Bool) (d : Dk) (sa : Option Addr) (sc : Nat) (ca : Option Addr) (cc : Nat) (w : World) (hok : d.ok) (hv : DAt w p d sa sc ca cc) (hr : formedB d = false) : Calls Try.prog 21 #[.pointer (some ⟨p, 0, none⟩), .slice ka keep.length kc] w fun e w' => e = .returned (.int .i64 1) ∧ Now w w' p d := by
  have HRI := Lib.hid (rformed_calls d sa sc ca cc w hv.v)
  rw [hr] at HRI
  have HV := Lib.hid hv
  clear hv hok hr
  go_enter Try.func21, Try.ntmps21
  go_wp2_with (first | ((with_reducible show wpList _ _ _ ({ dst := _, op := Op.load 25 _, type := _, pos := _, after := _, guard := _ } :: _) _ _); refine wpList_load_row_g (by rfl) 25 _ rfl p rfl 25 _ (0, 0) _ HV.out.blk Try.underlying25 rfl info_d ?_) | (go_at_call 17; (with_reducible refine (HRI.out).mono ?_); rintro e w2 ⟨rfl, hf2⟩; have HF2 := Lib.hid hf2; clear hf2))
  go_ret
  exact ⟨rfl, Now.same HV.out HF2.out⟩
set_option maxHeartbeats 2000000 in
set_option maxRecDepth 100000 in
theorem rcrash_good (p : Nat) (ka : Option Addr) (kc : Nat) (keep : List Bool) (d : Dk) (sa : Option Addr) (sc : Nat) (ca : Option Addr) (cc : Nat) (w : World) (hok : d.ok) (hv : DAt w p d sa sc ca cc) (hr : formedB d = true) (hkc : keep.length ≤ kc) (hkm : kc ≤ 9223372036854775807) (hrd : RdB w ka keep) (hkp : ∀ a, ka = some a → keep ≠ [] → a.block ≠ p) : Calls Try.prog 21 #[.pointer (some ⟨p, 0, none⟩), .slice ka keep.length kc] w fun e w' => e = .returned (.int .i64 0) ∧ Now w w' p { layD d (fun i => keep.getD i false) with fuse := -1, down := false } := by
  have HRI := Lib.hid (rformed_calls d sa sc ca cc w hv.v)
  rw [hr] at HRI
  have HV := Lib.hid hv
  have HLA := Lib.hid (fun W (h : Fr0 w W) => rlay_keep_calls ka kc keep p d sa sc ca cc W hok (hv.keep h) hr hkc hkm (RdG.keep hrd h) hkp)
  have HLO := Lib.hid (layD_ok hok (fun i => keep.getD i false))
  clear hv hok hr hrd hkp
  go_enter Try.func21, Try.ntmps21
  go_wp2_with (first | ((with_reducible show wpList _ _ _ ({ dst := _, op := Op.load 25 _, type := _, pos := _, after := _, guard := _ } :: _) _ _); refine wpList_load_row_g (by rfl) 25 _ rfl p rfl 25 _ (0, 0) _ HV.out.blk Try.underlying25 rfl info_d ?_) | (go_at_call 17; (with_reducible refine (HRI.out).mono ?_); rintro e w2 ⟨rfl, hf2⟩; have HF2 := Lib.hid hf2; clear hf2) | (go_at_call 39; (with_reducible refine (HLA.out _ HF2.out).mono ?_); rintro e w4 ⟨⟨v4, rfl⟩, ⟨⟨sb, sd, hv4⟩, hf4⟩⟩; have HV4 := Lib.hid hv4; have HF4 := Lib.hid hf4; have q2 : w4.cell? ⟨p, 2, none⟩ = some (.int .i64 _) := Bk.cell hv4.blk 2; have q3 : w4.cell? ⟨p, 3, none⟩ = some (.bool _) := Bk.cell hv4.blk 3; have f2 := Bk.free hv4.blk 2; have f3 := Bk.free hv4.blk 3; clear hv4 hf4))
  go_ret
  have h5 := DAt.setF HV4.out HLO.out (-1)
  have h6 := DAt.setDn h5 ⟨HLO.out.s, HLO.out.c, (show (Lit.int .i64 (-1)).wf = true by decide)⟩ false
  exact ⟨rfl, ⟨⟨_, _, _, _, h6⟩, Fr.set (Fr.set ((HF2.out.weaken (S' := fun i => i = p) (fun _ _ h => h.elim)).trans HF4.out) _ _ (.inr rfl)) _ _ (.inr rfl)⟩⟩
/-- CRASH: what the reference's Crash does. -/
theorem rcrash_calls (p : Nat) (ka : Option Addr) (kc : Nat) (keep : List Bool) (d : Dk) (sa : Option Addr) (sc : Nat) (ca : Option Addr) (cc : Nat) (w : World) (hok : d.ok) (hv : DAt w p d sa sc ca cc) (hkc : keep.length ≤ kc) (hkm : kc ≤ 9223372036854775807) (hrd : RdB w ka keep) (hkp : ∀ a, ka = some a → keep ≠ [] → a.block ≠ p) : Calls Try.prog 21 #[.pointer (some ⟨p, 0, none⟩), .slice ka keep.length kc] w fun e w' => e = .returned (.int .i64 (crashE d)) ∧ Now w w' p (crashD d keep) := by
  unfold crashE crashD
  rw [right0]
  cases hr : formedB d with
  | false => rw [if_pos rfl, if_pos rfl]; exact rcrash_wrong p ka kc keep d sa sc ca cc w hok hv hr
  | true => rw [if_neg (by simp), if_neg (by simp)]; exact rcrash_good p ka kc keep d sa sc ca cc w hok hv hr hkc hkm hrd hkp

end Go.Proofs.Ytboakipfhidkmaa.DiskRFlush
