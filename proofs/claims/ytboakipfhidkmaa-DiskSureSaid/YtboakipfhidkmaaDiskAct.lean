/- Acts of a disk, and its arming: the walks of spend, act, Arm of both. -/
import Derived.Test.YtboakipfhidkmaaDiskForm
set_option linter.unusedVariables false
set_option linter.unusedSimpArgs false
namespace Go.Proofs.Ytboakipfhidkmaa.DiskAct
open Go Go.RowKit Go.Proofs.Ytboakipfhidkmaa.K Go.Proofs.Ytboakipfhidkmaa.EqKit Go.Proofs.Ytboakipfhidkmaa.ArrKit Go.Proofs.Ytboakipfhidkmaa.HeldKit Go.Proofs.Ytboakipfhidkmaa.GKit Go.Proofs.Ytboakipfhidkmaa.GRow Go.Proofs.Ytboakipfhidkmaa.DiskKit Go.Proofs.Ytboakipfhidkmaa.DiskAsk Go.Proofs.Ytboakipfhidkmaa.DiskForm

theorem DAt.setF {w : World} {p : Nat} {d : Dk} {sa : Option Addr} {sc : Nat} {ca : Option Addr} {cc : Nat} (h : DAt w p d sa sc ca cc) (hok : d.ok) (f : Int) : DAt (w.setCell ⟨p, 2, none⟩ (.int .i64 f)) p { d with fuse := f } sa sc ca cc :=
  ⟨Bk.set h.blk 2 _, by
    have := h.v.past hok (Fr.set (Fr.refl (fun i => i = p) w) ⟨p, 2, none⟩ (.int .i64 f) (.inr rfl)) h.blk (dval_no _ _ _ _ _)
    exact ⟨this.rs, this.rc, this.sn, this.sm, this.cn, this.cm⟩⟩
theorem DAt.setDn {w : World} {p : Nat} {d : Dk} {sa : Option Addr} {sc : Nat} {ca : Option Addr} {cc : Nat} (h : DAt w p d sa sc ca cc) (hok : d.ok) (b : Bool) : DAt (w.setCell ⟨p, 3, none⟩ (.bool b)) p { d with down := b } sa sc ca cc :=
  ⟨Bk.set h.blk 3 _, by
    have := h.v.past hok (Fr.set (Fr.refl (fun i => i = p) w) ⟨p, 3, none⟩ (.bool b) (.inr rfl)) h.blk (dval_no _ _ _ _ _)
    exact ⟨this.rs, this.rc, this.sn, this.sm, this.cn, this.cm⟩⟩
/-- the disk in the variable p is d now, with the slices that it had; nothing else is changed -/
structure Aft (w w' : World) (p : Nat) (d : Dk) (sa : Option Addr) (sc : Nat) (ca : Option Addr) (cc : Nat) : Prop where
  at_ : DAt w' p d sa sc ca cc
  fr : Fr (fun i => i = p) w w'
/-- the disk in the variable p is d now; nothing else is changed -/
structure Now (w w' : World) (p : Nat) (d : Dk) : Prop where
  at_ : DIn w' p d
  fr : Fr (fun i => i = p) w w'
theorem Aft.now {w w' : World} {p : Nat} {d : Dk} {sa : Option Addr} {sc : Nat} {ca : Option Addr} {cc : Nat} (h : Aft w w' p d sa sc ca cc) : Now w w' p d := ⟨⟨sa, sc, ca, cc, h.at_⟩, h.fr⟩
theorem actD_ok {d : Dk} (h : d.ok) : (actD d).ok := by
  unfold actD
  have hf := h.f
  simp [Lit.wf, IntKind.min, IntKind.max, IntKind.signed, IntKind.bits] at hf
  repeat' split
  · exact h
  · exact ⟨h.s, h.c, h.f⟩
  · refine ⟨h.s, h.c, ?_⟩
    simp [Lit.wf, IntKind.min, IntKind.max, IntKind.signed, IntKind.bits]
    omega
  · exact h
theorem actD_S (d : Dk) : (actD d).S = d.S := by unfold actD; split; rfl; split; rfl; split <;> rfl
theorem actD_C (d : Dk) : (actD d).C = d.C := by unfold actD; split; rfl; split; rfl; split <;> rfl

set_option maxHeartbeats 2000000 in
set_option maxRecDepth 100000 in
theorem spend_down (p : Nat) (d : Dk) (sa : Option Addr) (sc : Nat) (ca : Option Addr) (cc : Nat) (w : World) (hok : d.ok) (hv : DAt w p d sa sc ca cc) (hd : d.down = true) : Calls Try.prog 34 #[.pointer (some ⟨p, 0, none⟩)] w fun e w' => e = .returned (.int .i64 3) ∧ Aft w w' p d sa sc ca cc := by
  have q2 : w.cell? ⟨p, 2, none⟩ = some (.int .i64 d.fuse) := Bk.cell hv.blk 2
  have q3 : w.cell? ⟨p, 3, none⟩ = some (.bool d.down) := Bk.cell hv.blk 3
  have f2 := Bk.free hv.blk 2
  have f3 := Bk.free hv.blk 3
  have HV := Lib.hid hv
  have HOK := Lib.hid hok
  have HDD := Lib.hid hd
  rw [hd] at q3
  clear hv hok hd
  go_enter Try.func34, Try.ntmps34
  go_wp2
  go_ret
  exact ⟨rfl, HV.out, Fr.refl _ _⟩

set_option maxHeartbeats 2000000 in
set_option maxRecDepth 100000 in
theorem spend_zero (p : Nat) (d : Dk) (sa : Option Addr) (sc : Nat) (ca : Option Addr) (cc : Nat) (w : World) (hok : d.ok) (hv : DAt w p d sa sc ca cc) (hd : d.down = false) (hf : (d.fuse == 0) = true) : Calls Try.prog 34 #[.pointer (some ⟨p, 0, none⟩)] w fun e w' => e = .returned (.int .i64 3) ∧ Aft w w' p { d with down := true } sa sc ca cc := by
  have q2 : w.cell? ⟨p, 2, none⟩ = some (.int .i64 d.fuse) := Bk.cell hv.blk 2
  have q3 : w.cell? ⟨p, 3, none⟩ = some (.bool d.down) := Bk.cell hv.blk 3
  have f2 := Bk.free hv.blk 2
  have f3 := Bk.free hv.blk 3
  have HV := Lib.hid hv
  have HOK := Lib.hid hok
  have HDD := Lib.hid hd
  rw [hd] at q3
  clear hv hok hd
  go_enter Try.func34, Try.ntmps34
  go_wp2
  go_ret
  exact ⟨rfl, DAt.setDn HV.out HOK.out true, Fr.set (Fr.refl _ _) _ _ (.inr rfl)⟩

set_option maxHeartbeats 2000000 in
set_option maxRecDepth 100000 in
theorem spend_pos (p : Nat) (d : Dk) (sa : Option Addr) (sc : Nat) (ca : Option Addr) (cc : Nat) (w : World) (hok : d.ok) (hv : DAt w p d sa sc ca cc) (hd : d.down = false) (hf : 0 < d.fuse) : Calls Try.prog 34 #[.pointer (some ⟨p, 0, none⟩)] w fun e w' => e = .returned (.int .i64 0) ∧ Aft w w' p { d with fuse := d.fuse - 1 } sa sc ca cc := by
  have c0 : (d.fuse == 0) = false := by simp; omega
  have hw := hok.f
  simp [Lit.wf, IntKind.min, IntKind.max, IntKind.signed, IntKind.bits] at hw
  obtain ⟨hw1, hw2⟩ := hw
  have q2 : w.cell? ⟨p, 2, none⟩ = some (.int .i64 d.fuse) := Bk.cell hv.blk 2
  have q3 : w.cell? ⟨p, 3, none⟩ = some (.bool d.down) := Bk.cell hv.blk 3
  have f2 := Bk.free hv.blk 2
  have f3 := Bk.free hv.blk 3
  have HV := Lib.hid hv
  have HOK := Lib.hid hok
  have HDD := Lib.hid hd
  rw [hd] at q3
  clear hv hok hd
  go_enter Try.func34, Try.ntmps34
  go_wp2
  go_ret
  exact ⟨rfl, DAt.setF HV.out HOK.out (d.fuse - 1), Fr.set (Fr.refl _ _) _ _ (.inr rfl)⟩

set_option maxHeartbeats 2000000 in
set_option maxRecDepth 100000 in
theorem spend_neg (p : Nat) (d : Dk) (sa : Option Addr) (sc : Nat) (ca : Option Addr) (cc : Nat) (w : World) (hok : d.ok) (hv : DAt w p d sa sc ca cc) (hd : d.down = false) (hf : d.fuse < 0) : Calls Try.prog 34 #[.pointer (some ⟨p, 0, none⟩)] w fun e w' => e = .returned (.int .i64 0) ∧ Aft w w' p d sa sc ca cc := by
  have c0 : (d.fuse == 0) = false := by simp; omega
  have c1 : decide (0 < d.fuse) = false := decide_eq_false (by omega)
  have q2 : w.cell? ⟨p, 2, none⟩ = some (.int .i64 d.fuse) := Bk.cell hv.blk 2
  have q3 : w.cell? ⟨p, 3, none⟩ = some (.bool d.down) := Bk.cell hv.blk 3
  have f2 := Bk.free hv.blk 2
  have f3 := Bk.free hv.blk 3
  have HV := Lib.hid hv
  have HOK := Lib.hid hok
  have HDD := Lib.hid hd
  rw [hd] at q3
  clear hv hok hd
  go_enter Try.func34, Try.ntmps34
  go_wp2
  go_ret
  exact ⟨rfl, HV.out, Fr.refl _ _⟩

theorem spend_calls (p : Nat) (d : Dk) (sa : Option Addr) (sc : Nat) (ca : Option Addr) (cc : Nat) (w : World) (hok : d.ok) (hv : DAt w p d sa sc ca cc) : Calls Try.prog 34 #[.pointer (some ⟨p, 0, none⟩)] w fun e w' => e = .returned (.int .i64 (actE d)) ∧ Aft w w' p (actD d) sa sc ca cc := by
  unfold actE actD
  cases hd : d.down with
  | true =>
    rw [if_pos (.inl rfl), if_pos rfl]
    exact spend_down p d sa sc ca cc w hok hv hd
  | false =>
    rw [if_neg (by simp : ¬ (false = true)) (t := d)]
    by_cases h0 : d.fuse = 0
    · rw [if_pos (.inr h0), if_pos h0]
      exact spend_zero p d sa sc ca cc w hok hv hd (by simp [h0])
    · rw [if_neg (by simp [h0]), if_neg h0]
      by_cases h1 : 0 < d.fuse
      · rw [if_pos h1]; have h2 := spend_pos p d sa sc ca cc w hok hv hd h1; rw [hd] at h2; exact h2
      · rw [if_neg h1]; exact spend_neg p d sa sc ca cc w hok hv hd (by omega)

set_option maxHeartbeats 2000000 in
set_option maxRecDepth 100000 in
theorem act_down0 (p : Nat) (d : Dk) (sa : Option Addr) (sc : Nat) (ca : Option Addr) (cc : Nat) (w : World) (hok : d.ok) (hv : DAt w p d sa sc ca cc) (hd : d.down = true) (hf : (d.fuse == 0) = true) : Calls Try.prog 36 #[.pointer (some ⟨p, 0, none⟩)] w fun e w' => e = .returned (.int .i64 3) ∧ Aft w w' p d sa sc ca cc := by
  have q2 : w.cell? ⟨p, 2, none⟩ = some (.int .i64 d.fuse) := Bk.cell hv.blk 2
  have q3 : w.cell? ⟨p, 3, none⟩ = some (.bool d.down) := Bk.cell hv.blk 3
  have f2 := Bk.free hv.blk 2
  have f3 := Bk.free hv.blk 3
  have HV := Lib.hid hv
  have HOK := Lib.hid hok
  have HDD := Lib.hid hd
  rw [hd] at q3
  clear hv hok hd
  go_enter Try.func36, Try.ntmps36
  go_wp2
  go_ret
  exact ⟨rfl, by have := DAt.setDn HV.out HOK.out true; rwa [show ({ d with down := true } : Dk) = d by rw [← HDD.out]] at this, Fr.set (Fr.refl _ _) _ _ (.inr rfl)⟩

set_option maxHeartbeats 2000000 in
set_option maxRecDepth 100000 in
theorem act_down1 (p : Nat) (d : Dk) (sa : Option Addr) (sc : Nat) (ca : Option Addr) (cc : Nat) (w : World) (hok : d.ok) (hv : DAt w p d sa sc ca cc) (hd : d.down = true) (hf : (d.fuse == 0) = false) : Calls Try.prog 36 #[.pointer (some ⟨p, 0, none⟩)] w fun e w' => e = .returned (.int .i64 3) ∧ Aft w w' p d sa sc ca cc := by
  have q2 : w.cell? ⟨p, 2, none⟩ = some (.int .i64 d.fuse) := Bk.cell hv.blk 2
  have q3 : w.cell? ⟨p, 3, none⟩ = some (.bool d.down) := Bk.cell hv.blk 3
  have f2 := Bk.free hv.blk 2
  have f3 := Bk.free hv.blk 3
  have HV := Lib.hid hv
  have HOK := Lib.hid hok
  have HDD := Lib.hid hd
  rw [hd] at q3
  clear hv hok hd
  go_enter Try.func36, Try.ntmps36
  go_wp2
  go_ret
  exact ⟨rfl, HV.out, Fr.refl _ _⟩

set_option maxHeartbeats 2000000 in
set_option maxRecDepth 100000 in
theorem act_zero (p : Nat) (d : Dk) (sa : Option Addr) (sc : Nat) (ca : Option Addr) (cc : Nat) (w : World) (hok : d.ok) (hv : DAt w p d sa sc ca cc) (hd : d.down = false) (hf : (d.fuse == 0) = true) : Calls Try.prog 36 #[.pointer (some ⟨p, 0, none⟩)] w fun e w' => e = .returned (.int .i64 3) ∧ Aft w w' p { d with down := true } sa sc ca cc := by
  have q2 : w.cell? ⟨p, 2, none⟩ = some (.int .i64 d.fuse) := Bk.cell hv.blk 2
  have q3 : w.cell? ⟨p, 3, none⟩ = some (.bool d.down) := Bk.cell hv.blk 3
  have f2 := Bk.free hv.blk 2
  have f3 := Bk.free hv.blk 3
  have HV := Lib.hid hv
  have HOK := Lib.hid hok
  have HDD := Lib.hid hd
  rw [hd] at q3
  clear hv hok hd
  go_enter Try.func36, Try.ntmps36
  go_wp2
  go_ret
  exact ⟨rfl, DAt.setDn HV.out HOK.out true, Fr.set (Fr.refl _ _) _ _ (.inr rfl)⟩

set_option maxHeartbeats 2000000 in
set_option maxRecDepth 100000 in
theorem act_pos (p : Nat) (d : Dk) (sa : Option Addr) (sc : Nat) (ca : Option Addr) (cc : Nat) (w : World) (hok : d.ok) (hv : DAt w p d sa sc ca cc) (hd : d.down = false) (hf : 0 < d.fuse) : Calls Try.prog 36 #[.pointer (some ⟨p, 0, none⟩)] w fun e w' => e = .returned (.int .i64 0) ∧ Aft w w' p { d with fuse := d.fuse - 1 } sa sc ca cc := by
  have c0 : (d.fuse == 0) = false := by simp; omega
  have hw := hok.f
  simp [Lit.wf, IntKind.min, IntKind.max, IntKind.signed, IntKind.bits] at hw
  obtain ⟨hw1, hw2⟩ := hw
  have q2 : w.cell? ⟨p, 2, none⟩ = some (.int .i64 d.fuse) := Bk.cell hv.blk 2
  have q3 : w.cell? ⟨p, 3, none⟩ = some (.bool d.down) := Bk.cell hv.blk 3
  have f2 := Bk.free hv.blk 2
  have f3 := Bk.free hv.blk 3
  have HV := Lib.hid hv
  have HOK := Lib.hid hok
  have HDD := Lib.hid hd
  rw [hd] at q3
  clear hv hok hd
  go_enter Try.func36, Try.ntmps36
  go_wp2
  go_ret
  exact ⟨rfl, DAt.setF HV.out HOK.out (d.fuse - 1), Fr.set (Fr.refl _ _) _ _ (.inr rfl)⟩

set_option maxHeartbeats 2000000 in
set_option maxRecDepth 100000 in
theorem act_neg (p : Nat) (d : Dk) (sa : Option Addr) (sc : Nat) (ca : Option Addr) (cc : Nat) (w : World) (hok : d.ok) (hv : DAt w p d sa sc ca cc) (hd : d.down = false) (hf : d.fuse < 0) : Calls Try.prog 36 #[.pointer (some ⟨p, 0, none⟩)] w fun e w' => e = .returned (.int .i64 0) ∧ Aft w w' p d sa sc ca cc := by
  have c0 : (d.fuse == 0) = false := by simp; omega
  have c1 : decide (0 < d.fuse) = false := decide_eq_false (by omega)
  have q2 : w.cell? ⟨p, 2, none⟩ = some (.int .i64 d.fuse) := Bk.cell hv.blk 2
  have q3 : w.cell? ⟨p, 3, none⟩ = some (.bool d.down) := Bk.cell hv.blk 3
  have f2 := Bk.free hv.blk 2
  have f3 := Bk.free hv.blk 3
  have HV := Lib.hid hv
  have HOK := Lib.hid hok
  have HDD := Lib.hid hd
  rw [hd] at q3
  clear hv hok hd
  go_enter Try.func36, Try.ntmps36
  go_wp2
  go_ret
  exact ⟨rfl, HV.out, Fr.refl _ _⟩

theorem act_calls (p : Nat) (d : Dk) (sa : Option Addr) (sc : Nat) (ca : Option Addr) (cc : Nat) (w : World) (hok : d.ok) (hv : DAt w p d sa sc ca cc) : Calls Try.prog 36 #[.pointer (some ⟨p, 0, none⟩)] w fun e w' => e = .returned (.int .i64 (actE d)) ∧ Aft w w' p (actD d) sa sc ca cc := by
  unfold actE actD
  cases hd : d.down with
  | true =>
    rw [if_pos (.inl rfl), if_pos rfl]
    cases hf : (d.fuse == 0) with
    | true => exact act_down0 p d sa sc ca cc w hok hv hd hf
    | false => exact act_down1 p d sa sc ca cc w hok hv hd hf
  | false =>
    rw [if_neg (by simp : ¬ (false = true)) (t := d)]
    by_cases h0 : d.fuse = 0
    · rw [if_pos (.inr h0), if_pos h0]
      exact act_zero p d sa sc ca cc w hok hv hd (by simp [h0])
    · rw [if_neg (by simp [h0]), if_neg h0]
      by_cases h1 : 0 < d.fuse
      · rw [if_pos h1]; have h2 := act_pos p d sa sc ca cc w hok hv hd h1; rw [hd] at h2; exact h2
      · rw [if_neg h1]; exact act_neg p d sa sc ca cc w hok hv hd (by omega)

theorem Aft.then0 {w w1 w2 : World} {p : Nat} {d : Dk} {sa : Option Addr} {sc : Nat} {ca : Option Addr} {cc : Nat} (f : Fr0 w w1) (h : Aft w1 w2 p d sa sc ca cc) : Aft w w2 p d sa sc ca cc := ⟨h.at_, (f.weaken (S' := fun i => i = p) (fun _ _ h => h.elim)).trans h.fr⟩
theorem Aft.same {w w1 : World} {p : Nat} {d : Dk} {sa : Option Addr} {sc : Nat} {ca : Option Addr} {cc : Nat} (h : DAt w p d sa sc ca cc) (f : Fr0 w w1) : Aft w w1 p d sa sc ca cc := ⟨h.keep f, f.weaken (fun _ _ h => h.elim)⟩

set_option maxHeartbeats 2000000 in
set_option maxRecDepth 100000 in
theorem arm_wrong (p : Nat) (n : Int) (d : Dk) (sa : Option Addr) (sc : Nat) (ca : Option Addr) (cc : Nat) (w : World) (hok : d.ok) (hv : DAt w p d sa sc ca cc) (hr : formedB d = false)  : Calls Try.prog 22 #[.pointer (some ⟨p, 0, none⟩), .int .i64 n] w fun e w' => e = .returned (.int .i64 1) ∧ Aft w w' p d sa sc ca cc := by
  have HRI := Lib.hid (right_calls p 0 d sa sc ca cc w hok hv)
  rw [right0] at HRI
  rw [hr] at HRI
  have HV := Lib.hid hv
  have HOK := Lib.hid hok
  clear hv hok hr
  go_enter Try.func22, Try.ntmps22
  go_wp2_with (first | (go_at_call 29; (with_reducible refine (HRI.out).mono ?_); rintro e w2 ⟨rfl, hf2⟩; have HV2 := Lib.hid (HV.out.keep hf2); have f2 := Bk.free HV2.out.blk 2; have f3 := Bk.free HV2.out.blk 3; have q2 : w2.cell? ⟨p, 2, none⟩ = some (.int .i64 d.fuse) := Bk.cell HV2.out.blk 2; have q3 : w2.cell? ⟨p, 3, none⟩ = some (.bool d.down) := Bk.cell HV2.out.blk 3; have HF2 := Lib.hid hf2; clear hf2))
  go_ret
  exact ⟨rfl, Aft.same HV.out HF2.out⟩

set_option maxHeartbeats 2000000 in
set_option maxRecDepth 100000 in
theorem arm_low (p : Nat) (n : Int) (d : Dk) (sa : Option Addr) (sc : Nat) (ca : Option Addr) (cc : Nat) (w : World) (hok : d.ok) (hv : DAt w p d sa sc ca cc) (hr : formedB d = true) (hn : n < -1) : Calls Try.prog 22 #[.pointer (some ⟨p, 0, none⟩), .int .i64 n] w fun e w' => e = .returned (.int .i64 1) ∧ Aft w w' p d sa sc ca cc := by
  have c0 : decide (n < -1) = true := decide_eq_true hn
  have HRI := Lib.hid (right_calls p 0 d sa sc ca cc w hok hv)
  rw [right0] at HRI
  rw [hr] at HRI
  have HV := Lib.hid hv
  have HOK := Lib.hid hok
  clear hv hok hr
  go_enter Try.func22, Try.ntmps22
  go_wp2_with (first | (go_at_call 29; (with_reducible refine (HRI.out).mono ?_); rintro e w2 ⟨rfl, hf2⟩; have HV2 := Lib.hid (HV.out.keep hf2); have f2 := Bk.free HV2.out.blk 2; have f3 := Bk.free HV2.out.blk 3; have q2 : w2.cell? ⟨p, 2, none⟩ = some (.int .i64 d.fuse) := Bk.cell HV2.out.blk 2; have q3 : w2.cell? ⟨p, 3, none⟩ = some (.bool d.down) := Bk.cell HV2.out.blk 3; have HF2 := Lib.hid hf2; clear hf2))
  go_ret
  exact ⟨rfl, Aft.same HV.out HF2.out⟩

set_option maxHeartbeats 2000000 in
set_option maxRecDepth 100000 in
theorem arm_yes (p : Nat) (n : Int) (d : Dk) (sa : Option Addr) (sc : Nat) (ca : Option Addr) (cc : Nat) (w : World) (hok : d.ok) (hv : DAt w p d sa sc ca cc) (hr : formedB d = true) (hn : -1 ≤ n) : Calls Try.prog 22 #[.pointer (some ⟨p, 0, none⟩), .int .i64 n] w fun e w' => e = .returned (.int .i64 0) ∧ Aft w w' p { d with fuse := n } sa sc ca cc := by
  have c0 : decide (n < -1) = false := decide_eq_false (by omega)
  have HRI := Lib.hid (right_calls p 0 d sa sc ca cc w hok hv)
  rw [right0] at HRI
  rw [hr] at HRI
  have HV := Lib.hid hv
  have HOK := Lib.hid hok
  clear hv hok hr
  go_enter Try.func22, Try.ntmps22
  go_wp2_with (first | (go_at_call 29; (with_reducible refine (HRI.out).mono ?_); rintro e w2 ⟨rfl, hf2⟩; have HV2 := Lib.hid (HV.out.keep hf2); have f2 := Bk.free HV2.out.blk 2; have f3 := Bk.free HV2.out.blk 3; have q2 : w2.cell? ⟨p, 2, none⟩ = some (.int .i64 d.fuse) := Bk.cell HV2.out.blk 2; have q3 : w2.cell? ⟨p, 3, none⟩ = some (.bool d.down) := Bk.cell HV2.out.blk 3; have HF2 := Lib.hid hf2; clear hf2))
  go_ret
  exact ⟨rfl, Aft.then0 HF2.out ⟨DAt.setF HV2.out HOK.out n, Fr.set (Fr.refl _ _) _ _ (.inr rfl)⟩⟩

theorem arm_calls (p : Nat) (n : Int) (d : Dk) (sa : Option Addr) (sc : Nat) (ca : Option Addr) (cc : Nat) (w : World) (hok : d.ok) (hv : DAt w p d sa sc ca cc) : Calls Try.prog 22 #[.pointer (some ⟨p, 0, none⟩), .int .i64 n] w fun e w' => e = .returned (.int .i64 (armE d n)) ∧ Aft w w' p (armD d n) sa sc ca cc := by
  unfold armE armD
  rw [right0]
  cases hr : formedB d with
  | false => rw [if_pos (.inl rfl), if_pos (.inl rfl)]; exact arm_wrong p n d sa sc ca cc w hok hv hr
  | true =>
    by_cases hn : n < -1
    · rw [if_pos (.inr hn), if_pos (.inr hn)]; exact arm_low p n d sa sc ca cc w hok hv hr hn
    · rw [if_neg (by simp; omega), if_neg (by simp; omega)]; exact arm_yes p n d sa sc ca cc w hok hv hr (by omega)

set_option maxHeartbeats 2000000 in
set_option maxRecDepth 100000 in
theorem rarm_wrong (p : Nat) (n : Int) (d : Dk) (sa : Option Addr) (sc : Nat) (ca : Option Addr) (cc : Nat) (w : World) (hok : d.ok) (hv : DAt w p d sa sc ca cc) (hr : formedB d = false)  : Calls Try.prog 23 #[.pointer (some ⟨p, 0, none⟩), .int .i64 n] w fun e w' => e = .returned (.int .i64 1) ∧ Aft w w' p d sa sc ca cc := by
  have HRI := Lib.hid (rformed_calls d sa sc ca cc w hv.v)
  rw [hr] at HRI
  have HV := Lib.hid hv
  have HOK := Lib.hid hok
  clear hv hok hr
  go_enter Try.func23, Try.ntmps23
  go_wp2_with (first | ((with_reducible show wpList _ _ _ ({ dst := _, op := Op.load 25 _, type := _, pos := _, after := _, guard := _ } :: _) _ _); refine wpList_load_row_g (by rfl) 25 _ rfl p rfl 25 _ (0, 0) _ HV.out.blk Try.underlying25 rfl info_d ?_) | (go_at_call 17; (with_reducible refine (HRI.out).mono ?_); rintro e w2 ⟨rfl, hf2⟩; have HV2 := Lib.hid (HV.out.keep hf2); have f2 := Bk.free HV2.out.blk 2; have f3 := Bk.free HV2.out.blk 3; have q2 : w2.cell? ⟨p, 2, none⟩ = some (.int .i64 d.fuse) := Bk.cell HV2.out.blk 2; have q3 : w2.cell? ⟨p, 3, none⟩ = some (.bool d.down) := Bk.cell HV2.out.blk 3; have HF2 := Lib.hid hf2; clear hf2))
  go_ret
  exact ⟨rfl, Aft.same HV.out HF2.out⟩

set_option maxHeartbeats 2000000 in
set_option maxRecDepth 100000 in
theorem rarm_low (p : Nat) (n : Int) (d : Dk) (sa : Option Addr) (sc : Nat) (ca : Option Addr) (cc : Nat) (w : World) (hok : d.ok) (hv : DAt w p d sa sc ca cc) (hr : formedB d = true) (hn : n < -1) : Calls Try.prog 23 #[.pointer (some ⟨p, 0, none⟩), .int .i64 n] w fun e w' => e = .returned (.int .i64 1) ∧ Aft w w' p d sa sc ca cc := by
  have c0 : decide (n < -1) = true := decide_eq_true hn
  have HRI := Lib.hid (rformed_calls d sa sc ca cc w hv.v)
  rw [hr] at HRI
  have HV := Lib.hid hv
  have HOK := Lib.hid hok
  clear hv hok hr
  go_enter Try.func23, Try.ntmps23
  go_wp2_with (first | ((with_reducible show wpList _ _ _ ({ dst := _, op := Op.load 25 _, type := _, pos := _, after := _, guard := _ } :: _) _ _); refine wpList_load_row_g (by rfl) 25 _ rfl p rfl 25 _ (0, 0) _ HV.out.blk Try.underlying25 rfl info_d ?_) | (go_at_call 17; (with_reducible refine (HRI.out).mono ?_); rintro e w2 ⟨rfl, hf2⟩; have HV2 := Lib.hid (HV.out.keep hf2); have f2 := Bk.free HV2.out.blk 2; have f3 := Bk.free HV2.out.blk 3; have q2 : w2.cell? ⟨p, 2, none⟩ = some (.int .i64 d.fuse) := Bk.cell HV2.out.blk 2; have q3 : w2.cell? ⟨p, 3, none⟩ = some (.bool d.down) := Bk.cell HV2.out.blk 3; have HF2 := Lib.hid hf2; clear hf2))
  go_ret
  exact ⟨rfl, Aft.same HV.out HF2.out⟩

set_option maxHeartbeats 2000000 in
set_option maxRecDepth 100000 in
theorem rarm_yes (p : Nat) (n : Int) (d : Dk) (sa : Option Addr) (sc : Nat) (ca : Option Addr) (cc : Nat) (w : World) (hok : d.ok) (hv : DAt w p d sa sc ca cc) (hr : formedB d = true) (hn : -1 ≤ n) : Calls Try.prog 23 #[.pointer (some ⟨p, 0, none⟩), .int .i64 n] w fun e w' => e = .returned (.int .i64 0) ∧ Aft w w' p { d with fuse := n } sa sc ca cc := by
  have c0 : decide (n < -1) = false := decide_eq_false (by omega)
  have HRI := Lib.hid (rformed_calls d sa sc ca cc w hv.v)
  rw [hr] at HRI
  have HV := Lib.hid hv
  have HOK := Lib.hid hok
  clear hv hok hr
  go_enter Try.func23, Try.ntmps23
  go_wp2_with (first | ((with_reducible show wpList _ _ _ ({ dst := _, op := Op.load 25 _, type := _, pos := _, after := _, guard := _ } :: _) _ _); refine wpList_load_row_g (by rfl) 25 _ rfl p rfl 25 _ (0, 0) _ HV.out.blk Try.underlying25 rfl info_d ?_) | (go_at_call 17; (with_reducible refine (HRI.out).mono ?_); rintro e w2 ⟨rfl, hf2⟩; have HV2 := Lib.hid (HV.out.keep hf2); have f2 := Bk.free HV2.out.blk 2; have f3 := Bk.free HV2.out.blk 3; have q2 : w2.cell? ⟨p, 2, none⟩ = some (.int .i64 d.fuse) := Bk.cell HV2.out.blk 2; have q3 : w2.cell? ⟨p, 3, none⟩ = some (.bool d.down) := Bk.cell HV2.out.blk 3; have HF2 := Lib.hid hf2; clear hf2))
  go_ret
  exact ⟨rfl, Aft.then0 HF2.out ⟨DAt.setF HV2.out HOK.out n, Fr.set (Fr.refl _ _) _ _ (.inr rfl)⟩⟩

theorem rarm_calls (p : Nat) (n : Int) (d : Dk) (sa : Option Addr) (sc : Nat) (ca : Option Addr) (cc : Nat) (w : World) (hok : d.ok) (hv : DAt w p d sa sc ca cc) : Calls Try.prog 23 #[.pointer (some ⟨p, 0, none⟩), .int .i64 n] w fun e w' => e = .returned (.int .i64 (armE d n)) ∧ Aft w w' p (armD d n) sa sc ca cc := by
  unfold armE armD
  rw [right0]
  cases hr : formedB d with
  | false => rw [if_pos (.inl rfl), if_pos (.inl rfl)]; exact rarm_wrong p n d sa sc ca cc w hok hv hr
  | true =>
    by_cases hn : n < -1
    · rw [if_pos (.inr hn), if_pos (.inr hn)]; exact rarm_low p n d sa sc ca cc w hok hv hr hn
    · rw [if_neg (by simp; omega), if_neg (by simp; omega)]; exact rarm_yes p n d sa sc ca cc w hok hv hr (by omega)

theorem armD_ok {d : Dk} (h : d.ok) {n : Int} (hn : (Lit.int .i64 n).wf = true) : (armD d n).ok := by
  unfold armD
  split
  · exact h
  · exact ⟨h.s, h.c, hn⟩

end Go.Proofs.Ytboakipfhidkmaa.DiskAct
