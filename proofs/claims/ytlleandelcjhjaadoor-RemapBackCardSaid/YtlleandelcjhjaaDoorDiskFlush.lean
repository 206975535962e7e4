/- A disk flushed, and crashed: the walks of disk.Flush and disk.Crash. -/
import Derived.Test.YtlleandelcjhjaaDoorDiskLay
set_option linter.unusedVariables false
set_option linter.unusedSimpArgs false
namespace Go.Proofs.YtlleandelcjhjaaDoor.DiskFlush
open Go Go.RowKit Go.Proofs.YtlleandelcjhjaaDoor.K Go.Proofs.YtlleandelcjhjaaDoor.EqKit Go.Proofs.YtlleandelcjhjaaDoor.ArrKit Go.Proofs.YtlleandelcjhjaaDoor.HeldKit Go.Proofs.YtlleandelcjhjaaDoor.GKit Go.Proofs.YtlleandelcjhjaaDoor.GRow Go.Proofs.YtlleandelcjhjaaDoor.DiskKit Go.Proofs.YtlleandelcjhjaaDoor.DiskAsk Go.Proofs.YtlleandelcjhjaaDoor.DiskForm Go.Proofs.YtlleandelcjhjaaDoor.DiskAct Go.Proofs.YtlleandelcjhjaaDoor.DiskNew Go.Proofs.YtlleandelcjhjaaDoor.DiskCopy Go.Proofs.YtlleandelcjhjaaDoor.DiskLay

set_option maxHeartbeats 2000000 in
set_option maxRecDepth 100000 in
theorem clf_calls (i : Nat) (w : World) : Calls Tryd.prog 77 #[.int .i64 i] w fun e w' => e = .returned (.bool true) ∧ Fr0 w w' := by
  go_enter Tryd.func77, Tryd.ntmps77
  go_wp2
  go_ret
  exact ⟨rfl, Fr.refl _ _⟩
def RdB : World → Option Addr → List Bool → Prop := RdG (fun b : Bool => [Value.bool b]) 1
theorem RdB.cell {w : World} {ka : Option Addr} {keep : List Bool} (h : RdB w ka keep) {i : Nat} (hi : i < keep.length) : ∃ b o, ka = some ⟨b, o, none⟩ ∧ w.cell? ⟨b, o + i, none⟩ = some (.bool (keep.getD i false)) := by
  obtain ⟨b, o, e, hr⟩ := h i hi
  refine ⟨b, o, e, ?_⟩
  have := hr 0 _ rfl
  rw [Nat.mul_one, Nat.add_zero] at this
  rw [this, List.getD_eq_getElem?_getD, List.getElem?_eq_getElem hi]; rfl
set_option maxHeartbeats 2000000 in
set_option maxRecDepth 100000 in
theorem clc_calls (kp i : Nat) (ka : Option Addr) (kc : Nat) (keep : List Bool) (w : World) (hi : (i : Int) ≤ 9223372036854775807) (hkc : keep.length ≤ kc) (hkm : kc ≤ 9223372036854775807) (hk : w.cell? ⟨kp, 0, none⟩ = some (.slice ka keep.length kc)) (hrd : RdB w ka keep) : Calls Tryd.prog 60 #[.int .i64 i, .pointer (some ⟨kp, 0, none⟩)] w fun e w' => e = .returned (.bool (keep.getD i false)) ∧ Fr0 w w' := by
  by_cases hlt : i < keep.length
  · obtain ⟨b, o, rfl, hc⟩ := hrd.cell hlt
    clear hrd
    generalize keep.getD i false = kb at *
    go_enter Tryd.func60, Tryd.ntmps60
    go_wp2
    go_ret
    exact ⟨rfl, Fr.refl _ _⟩
  · rw [show keep.getD i false = false by rw [List.getD_eq_getElem?_getD, List.getElem?_eq_none (by omega)]; rfl]
    clear hrd
    go_enter Tryd.func60, Tryd.ntmps60
    go_wp2
    go_ret
    exact ⟨rfl, Fr.refl _ _⟩
/-- the disk in the variable is d now; nothing else is changed -/
theorem Laid.now {w w1 w2 : World} {p : Nat} {d d' : Dk} {sa : Option Addr} {sc : Nat} {ca : Option Addr} {cc : Nat} (f : Fr0 w w1) (h : Aft w1 w2 p d sa sc ca cc) : Now w w2 p d := ⟨⟨sa, sc, ca, cc, h.at_⟩, (f.weaken (S' := fun i => i = p) (fun _ _ h => h.elim)).trans h.fr⟩
theorem Laid.fr0 {w w1 w2 : World} {p : Nat} {d : Dk} (f : Fr0 w w1) (h : Laid w1 w2 p d) : Now w w2 p d := by
  obtain ⟨⟨sa, sc, h⟩, k⟩ := h
  exact ⟨⟨sa, sc, none, 0, h⟩, (f.weaken (S' := fun i => i = p) (fun _ _ h => h.elim)).trans k⟩
theorem Laid.fr1 {w w1 w2 : World} {p : Nat} {d : Dk} (f : Fr (fun i => i = p) w w1) (h : Laid w1 w2 p d) : Now w w2 p d := by
  obtain ⟨⟨sa, sc, h⟩, k⟩ := h
  exact ⟨⟨sa, sc, none, 0, h⟩, f.trans k⟩
theorem Now.same {w w1 : World} {p : Nat} {d : Dk} {sa : Option Addr} {sc : Nat} {ca : Option Addr} {cc : Nat} (h : DAt w p d sa sc ca cc) (f : Fr0 w w1) : Now w w1 p d := ⟨⟨sa, sc, ca, cc, h.keep f⟩, f.weaken (fun _ _ h => h.elim)⟩
theorem formed_act {d : Dk} : formedB (actD d) = formedB d := by rw [formedB, formedB, actD_S, actD_C]
theorem actE_cases (d : Dk) : actE d = 3 ∨ actE d = 0 := by unfold actE; split; exact .inl rfl; exact .inr rfl
set_option maxHeartbeats 2000000 in
set_option maxRecDepth 100000 in
theorem flush_wrong (p : Nat) (d : Dk) (sa : Option Addr) (sc : Nat) (ca : Option Addr) (cc : Nat) (w : World) (hok : d.ok) (hv : DAt w p d sa sc ca cc) (hr : formedB d = false) : Calls Tryd.prog 49 #[.pointer (some ⟨p, 0, none⟩)] w fun e w' => e = .returned (.int .i64 1) ∧ Now w w' p d := by
  have HRI := Lib.hid (right_calls p 0 d sa sc ca cc w hok hv)
  rw [right0, hr] at HRI
  have HV := Lib.hid hv
  clear hv hok hr
  go_enter Tryd.func49, Tryd.ntmps49
  go_wp2_with (go_at_call 58; (with_reducible refine (HRI.out).mono ?_); rintro e w2 ⟨rfl, hf2⟩; have HF2 := Lib.hid hf2; clear hf2)
  go_ret
  exact ⟨rfl, Now.same HV.out HF2.out⟩
set_option maxHeartbeats 2000000 in
set_option maxRecDepth 100000 in
theorem flush_down (p : Nat) (d : Dk) (sa : Option Addr) (sc : Nat) (ca : Option Addr) (cc : Nat) (w : World) (hok : d.ok) (hv : DAt w p d sa sc ca cc) (hr : formedB d = true) (ha : actE d = 3) : Calls Tryd.prog 49 #[.pointer (some ⟨p, 0, none⟩)] w fun e w' => e = .returned (.int .i64 3) ∧ Now w w' p (actD d) := by
  have HRI := Lib.hid (right_calls p 0 d sa sc ca cc w hok hv)
  rw [right0, hr] at HRI
  have HSP := Lib.hid (fun W (h : Fr0 w W) => spend_calls p d sa sc ca cc W hok (hv.keep h))
  rw [ha] at HSP
  clear hv hok hr ha
  go_enter Tryd.func49, Tryd.ntmps49
  go_wp2_with (first | (go_at_call 58; (with_reducible refine (HRI.out).mono ?_); rintro e w2 ⟨rfl, hf2⟩; have HF2 := Lib.hid hf2; clear hf2) | (go_at_call 73; (with_reducible refine (HSP.out _ HF2.out).mono ?_); rintro e w3 ⟨rfl, hf3⟩; have HA3 := Lib.hid hf3; clear hf3))
  go_ret
  exact ⟨rfl, Laid.now (d' := d) HF2.out HA3.out⟩
set_option maxHeartbeats 2000000 in
set_option maxRecDepth 100000 in
theorem flush_good (p : Nat) (d : Dk) (sa : Option Addr) (sc : Nat) (ca : Option Addr) (cc : Nat) (w : World) (hok : d.ok) (hv : DAt w p d sa sc ca cc) (hr : formedB d = true) (ha : actE d = 0) : Calls Tryd.prog 49 #[.pointer (some ⟨p, 0, none⟩)] w fun e w' => e = .returned (.int .i64 0) ∧ Now w w' p (layD (actD d) (fun _ => true)) := by
  have HRI := Lib.hid (right_calls p 0 d sa sc ca cc w hok hv)
  rw [right0, hr] at HRI
  have HSP := Lib.hid (fun W (h : Fr0 w W) => spend_calls p d sa sc ca cc W hok (hv.keep h))
  rw [ha] at HSP
  have HLA := Lib.hid (fun W (h : DAt W p (actD d) sa sc ca cc) => lay_f_calls p (actD d) sa sc ca cc (fun _ => true) W (actD_ok hok) h (formed_act.trans hr) (fun i W' _ _ => clf_calls i W'))
  clear hv hok hr ha
  go_enter Tryd.func49, Tryd.ntmps49
  go_wp2_with (first | (go_at_call 58; (with_reducible refine (HRI.out).mono ?_); rintro e w2 ⟨rfl, hf2⟩; have HF2 := Lib.hid hf2; clear hf2) | (go_at_call 73; (with_reducible refine (HSP.out _ HF2.out).mono ?_); rintro e w3 ⟨rfl, hf3⟩; have HA3 := Lib.hid hf3; clear hf3) | (go_at_call 59; (with_reducible refine (HLA.out _ HA3.out.at_).mono ?_); rintro e w4 ⟨⟨v4, rfl⟩, hf4⟩; have HA4 := Lib.hid hf4; clear hf4))
  go_ret
  exact ⟨rfl, Laid.fr1 ((HF2.out.weaken (fun _ _ h => h.elim)).trans HA3.out.fr) HA4.out⟩
/-- FLUSH: what disk.Flush does. -/
theorem flush_calls (p : Nat) (d : Dk) (sa : Option Addr) (sc : Nat) (ca : Option Addr) (cc : Nat) (w : World) (hok : d.ok) (hv : DAt w p d sa sc ca cc) : Calls Tryd.prog 49 #[.pointer (some ⟨p, 0, none⟩)] w fun e w' => e = .returned (.int .i64 (flushE d)) ∧ Now w w' p (flushD d) := by
  unfold flushE flushD
  rw [right0]
  cases hr : formedB d with
  | false => rw [if_pos rfl, if_pos rfl]; exact flush_wrong p d sa sc ca cc w hok hv hr
  | true =>
    rw [if_neg (by simp), if_neg (by simp)]
    rcases actE_cases d with ha | ha
    · rw [if_pos ha, ha]; exact flush_down p d sa sc ca cc w hok hv hr ha
    · rw [if_neg (by omega), ha]; exact flush_good p d sa sc ca cc w hok hv hr ha

set_option maxHeartbeats 2000000 in
set_option maxRecDepth 100000 in
theorem crash_wrong (p : Nat) (ka : Option Addr) (kc : Nat) (keep : List Bool) (d : Dk) (sa : Option Addr) (sc : Nat) (ca : Option Addr) (cc : Nat) (w : World) (hok : d.ok) (hv : DAt w p d sa sc ca cc) (hr : formedB d = false) : Calls Tryd.prog 31 #[.pointer (some ⟨p, 0, none⟩), .slice ka keep.length kc] w fun e w' => e = .returned (.int .i64 1) ∧ Now w w' p d := by
  have HF0 : Hid (Fr0 w (w.alloc (.cells #[.slice ka keep.length kc] 54))) := Lib.hid (Fr.alloc (Fr.refl _ _) _)
  have HRI := Lib.hid (right_calls p 0 d sa sc ca cc (w.alloc (.cells #[.slice ka keep.length kc] 54)) hok (hv.keep HF0.out))
  rw [right0, hr] at HRI
  have HV := Lib.hid hv
  clear hv hok hr
  go_enter Tryd.func31, Tryd.ntmps31
  go_wp2_with (go_at_call 58; (with_reducible refine (HRI.out).mono ?_); rintro e w2 ⟨rfl, hf2⟩; have HF2 := Lib.hid (HF0.out.then0 hf2); clear hf2)
  go_ret
  exact ⟨rfl, Now.same HV.out HF2.out⟩
set_option maxHeartbeats 2000000 in
set_option maxRecDepth 100000 in
theorem crash_good (p : Nat) (ka : Option Addr) (kc : Nat) (keep : List Bool) (d : Dk) (sa : Option Addr) (sc : Nat) (ca : Option Addr) (cc : Nat) (w : World) (hok : d.ok) (hv : DAt w p d sa sc ca cc) (hr : formedB d = true) (hkc : keep.length ≤ kc) (hkm : kc ≤ 9223372036854775807) (hrd : RdB w ka keep) (hkp : ∀ a, ka = some a → keep ≠ [] → a.block ≠ p) (hC : d.C.length ≤ 9223372036854775807) : Calls Tryd.prog 31 #[.pointer (some ⟨p, 0, none⟩), .slice ka keep.length kc] w fun e w' => e = .returned (.int .i64 0) ∧ Now w w' p { layD d (fun i => keep.getD i false) with fuse := -1, down := false } := by
  have hpw : p < w.heap.size := Bk.lt hv.blk
  have HF0 : Hid (Fr0 w (w.alloc (.cells #[.slice ka keep.length kc] 54))) := Lib.hid (Fr.alloc (Fr.refl _ _) _)
  have HRI := Lib.hid (right_calls p 0 d sa sc ca cc (w.alloc (.cells #[.slice ka keep.length kc] 54)) hok (hv.keep HF0.out))
  rw [right0, hr] at HRI
  have HKP : Hid (Bk (w.alloc (.cells #[.slice ka keep.length kc] 54)) w.heap.size #[.slice ka keep.length kc] 54) := Lib.hid (Bk.new w _)
  have HLA := Lib.hid (fun W (h : Fr0 (w.alloc (.cells #[.slice ka keep.length kc] 54)) W) => lay_c_calls w.heap.size p d sa sc ca cc (fun i => keep.getD i false) W hok ((hv.keep HF0.out).keep h) hr (fun i W' hi f => clc_calls w.heap.size i ka kc keep W' (by omega) hkc hkm (Bk.cell (f.keep (h.keep HKP.out (fun h => h)) (by omega)) 0) (RdG.later ((RdG.keep hrd HF0.out).keep h) f hkp)))
  have HLO := Lib.hid (layD_ok hok (fun i => keep.getD i false))
  have hmf : ∀ (fn : Fn) (first cap : Array Value) (W : World), (Instr.makeFunc fn first cap).run Tryd.prog W = .ok (.func fn first cap) W := fun _ _ _ _ => rfl
  clear hv hok hr hrd hkp
  go_enter Tryd.func31, Tryd.ntmps31
  go_wp2_with (first | (go_at_call 58; (with_reducible refine (HRI.out).mono ?_); rintro e w2 ⟨rfl, hf2⟩; have HF2 := Lib.hid hf2; clear hf2) | (go_at_call 59; (with_reducible refine (HLA.out _ HF2.out).mono ?_); rintro e w4 ⟨⟨v4, rfl⟩, ⟨⟨sb, sd, hv4⟩, hf4⟩⟩; have HV4 := Lib.hid hv4; have HF4 := Lib.hid hf4; have q2 : w4.cell? ⟨p, 2, none⟩ = some (.int .i64 _) := Bk.cell hv4.blk 2; have q3 : w4.cell? ⟨p, 3, none⟩ = some (.bool _) := Bk.cell hv4.blk 3; have f2 := Bk.free hv4.blk 2; have f3 := Bk.free hv4.blk 3; clear hv4 hf4))
  go_ret
  have h5 := DAt.setF HV4.out HLO.out (-1)
  have h6 := DAt.setDn h5 ⟨HLO.out.s, HLO.out.c, (show (Lit.int .i64 (-1)).wf = true by decide)⟩ false
  exact ⟨rfl, ⟨⟨_, _, _, _, h6⟩, Fr.set (Fr.set (((HF0.out.then0 HF2.out).weaken (S' := fun i => i = p) (fun _ _ h => h.elim)).trans HF4.out) _ _ (.inr rfl)) _ _ (.inr rfl)⟩⟩
/-- CRASH: what disk.Crash does. -/
theorem crash_calls (p : Nat) (ka : Option Addr) (kc : Nat) (keep : List Bool) (d : Dk) (sa : Option Addr) (sc : Nat) (ca : Option Addr) (cc : Nat) (w : World) (hok : d.ok) (hv : DAt w p d sa sc ca cc) (hkc : keep.length ≤ kc) (hkm : kc ≤ 9223372036854775807) (hrd : RdB w ka keep) (hkp : ∀ a, ka = some a → keep ≠ [] → a.block ≠ p) : Calls Tryd.prog 31 #[.pointer (some ⟨p, 0, none⟩), .slice ka keep.length kc] w fun e w' => e = .returned (.int .i64 (crashE d)) ∧ Now w w' p (crashD d keep) := by
  unfold crashE crashD
  rw [right0]
  cases hr : formedB d with
  | false => rw [if_pos rfl, if_pos rfl]; exact crash_wrong p ka kc keep d sa sc ca cc w hok hv hr
  | true => rw [if_neg (by simp), if_neg (by simp)]; exact crash_good p ka kc keep d sa sc ca cc w hok hv hr hkc hkm hrd hkp (by have := hv.v.cn; have := hv.v.cm; omega)

end Go.Proofs.YtlleandelcjhjaaDoor.DiskFlush
