/- The theorems that the claim uses, text behind text (part 27). -/
import Derived.Test.YtlleandelcjhjaaDoorZae
import Derived.Test.YtlleandelcjhjaaDoorZaf
import Derived.Test.YtlleandelcjhjaaDoorZax
import Derived.Test.YtlleandelcjhjaaDoorZay
import Derived.Test.YtlleandelcjhjaaDoorZaz
set_option maxRecDepth 100000
set_option linter.unusedVariables false
set_option linter.unusedSimpArgs false
namespace Go.Proofs.YtlleandelcjhjaaDoor.RmWholeLaw
open Go Go.RowKit Go.Proofs.YtlleandelcjhjaaDoor.K Go.Proofs.YtlleandelcjhjaaDoor.EqKit Go.Proofs.YtlleandelcjhjaaDoor.ArrKit Go.Proofs.YtlleandelcjhjaaDoor.HeldKit Go.Proofs.YtlleandelcjhjaaDoor.GKit Go.Proofs.YtlleandelcjhjaaDoor.GRow Go.Proofs.YtlleandelcjhjaaDoor.DiskKit Go.Proofs.YtlleandelcjhjaaDoor.RmKit Go.Proofs.YtlleandelcjhjaaDoor.MapKit Go.Proofs.YtlleandelcjhjaaDoor.DiskNew Go.Proofs.YtlleandelcjhjaaDoor.RmRight Go.Proofs.YtlleandelcjhjaaDoor.RmRRight Go.Proofs.YtlleandelcjhjaaDoor.RmTab Go.Proofs.YtlleandelcjhjaaDoor.RmPut Go.Proofs.YtlleandelcjhjaaDoor.RmAsk Go.Proofs.YtlleandelcjhjaaDoor.RmSame Go.Proofs.YtlleandelcjhjaaDoor.DiskCopy Go.Proofs.YtlleandelcjhjaaDoor.DiskTwins Go.Proofs.YtlleandelcjhjaaDoor.DiskRRead Go.Proofs.YtlleandelcjhjaaDoor.RmRead Go.Proofs.YtlleandelcjhjaaDoor.RmReads Go.Proofs.YtlleandelcjhjaaDoor.RmAlive Go.Proofs.YtlleandelcjhjaaDoor.RmAliveP Go.Proofs.YtlleandelcjhjaaDoor.RmGreat Go.Proofs.YtlleandelcjhjaaDoor.DiskAct Go.Proofs.YtlleandelcjhjaaDoor.DiskLay Go.Proofs.YtlleandelcjhjaaDoor.DiskFlush Go.Proofs.YtlleandelcjhjaaDoor.RmSpare Go.Proofs.YtlleandelcjhjaaDoor.RmKeep Go.Proofs.YtlleandelcjhjaaDoor.RmFirst Go.Proofs.YtlleandelcjhjaaDoor.RmWrX Go.Proofs.YtlleandelcjhjaaDoor.RmWrite Go.Proofs.YtlleandelcjhjaaDoor.RmTake Go.Proofs.YtlleandelcjhjaaDoor.RmBackPlain Go.Proofs.YtlleandelcjhjaaDoor.RmLoadX Go.Proofs.YtlleandelcjhjaaDoor.RmLoad Go.Proofs.YtlleandelcjhjaaDoor.RmPair Go.Proofs.YtlleandelcjhjaaDoor.RmWholePlain
/-- where the power fails, and what is kept, as a value -/
def FALLV (a : Int) (ka : Option Addr) (n kc : Nat) : Array Value := #[.int .i64 a, .slice ka n kc]
theorem load_M {d : Dk} {m : Rm} {e : Int} (h : loadX d = (m, e)) : m.ok ∧ m.ps.length ≤ 255 := by
  have hz : (⟨0, []⟩ : Rm).ok ∧ (⟨0, []⟩ : Rm).ps.length ≤ 255 := ⟨⟨by decide, fun x hx => by cases hx⟩, Nat.zero_le _⟩
  unfold loadX at h
  split at h
  · have e : (⟨0, []⟩ : Rm) = m := congrArg (fun x => x.1) h
    rw [← e]; exact hz
  · split at h
    · have e : (⟨0, []⟩ : Rm) = m := congrArg (fun x => x.1) h
      rw [← e]; exact hz
    · split at h
      · have e : (⟨0, []⟩ : Rm) = m := congrArg (fun x => x.1) h
        rw [← e]; exact hz
      · rename_i x hx
        have e : x = m := congrArg (fun x => x.1) h
        subst e
        obtain ⟨⟨i, -, hc⟩, -⟩ := best_max d 4 x hx
        unfold cand at hc
        split at hc
        · have e : _ = x := Option.some.inj hc
          rw [← e]
          refine ⟨takX_ok _ _, ?_⟩
          unfold takX
          split
          · show (takP _).length ≤ 255
            rw [takP_len]
            unfold takK
            have := UInt8.toNat_lt (List.getD (readX d (((i / 2 : Nat) : Int) * hvI d + ((i % 2 : Nat) : Int))).1 9 0)
            omega
          · exact Nat.zero_le _
        · cases hc
theorem RdB_keep {w w1 : World} {ka : Option Addr} {k : List Bool} (h : RdB w ka k) (f : Fr0 w w1) : RdB w1 ka k := RdG.keep h f
theorem PS.past1 {w w1 : World} {p q s : Nat} {d d0 : Dk} {m : Rm} {sa : Option Addr} {sc : Nat} {ca : Option Addr} {cc : Nat} (h : PS w q s d m) (hok : d.ok) (h0 : DAt w p d0 sa sc ca cc) (f : Fr (fun i => i = p) w w1) (hqp : q ≠ p) (hsp : s ≠ p) : PS w1 q s d m := by
  obtain ⟨⟨sa1, sc1, ca1, cc1, h1⟩, a, c, h2, h3⟩ := h
  exact ⟨⟨sa1, sc1, ca1, cc1, h1.past hok f h0.blk (dval_no _ _ _ _ _) hqp⟩, a, c, f.keep h2 hsp, RV.past h3 f h0.blk⟩
theorem crashD_ok4 {d : Dk} (h : d.ok) (keep : List Bool) : (crashD d keep).ok := by
  unfold crashD
  split
  · exact h
  · have h2 := layD_ok h (fun i => keep.getD i false)
    exact ⟨h2.s, h2.c, by show (Lit.int .i64 (-1)).wf = true; decide⟩
theorem wrapi_small {x : Int} (h0 : 0 ≤ x) (h1 : x ≤ 100000) : IntKind.i64.wrap x = x := wr_i _ (by omega) (by omega)
theorem wf_small2 {x : Int} (h0 : -1 ≤ x) (h1 : x ≤ 100) : (Lit.int .i64 x).wf = true := by
  simp [Lit.wf, IntKind.min, IntKind.max, IntKind.signed, IntKind.bits]; omega
theorem arm_up {d : Dk} (hf : formedB d = true) {x : Int} (hx : -1 ≤ x) : armE d x = 0 ∧ armD d x = { d with fuse := x } := by
  have hr : ¬ (rightB d 0 = false ∨ x < -1) := by
    rw [right0, hf]; rintro (h | h)
    · cases h
    · omega
  unfold armE armD
  rw [if_neg hr, if_neg hr]
  exact ⟨rfl, rfl⟩

set_option maxHeartbeats 20000000 in
set_option maxRecDepth 100000 in
theorem whole_all (d : Dk) (sa : Option Addr) (sc : Nat) (ca : Option Addr) (cc : Nat) (n : Int) (b : List UInt8) (at0 : Int) (ka : Option Addr) (kc : Nat) (keep : List Bool) (w : World) (hok : d.ok) (hv : DV w d sa sc ca cc) (hS : d.S.length * 130 ≤ 140737488355328) (hC : d.C.length * 136 ≤ 140737488355328) (hn : (Lit.int .i64 n).wf = true) (hb : b.length = 128) (hat : (Lit.int .i64 at0).wf = true) (hrd : RdB w ka keep) (hkc : keep.length ≤ kc) (hkm : kc ≤ 9223372036854775807) (hsh : Sh w) : Calls Tryd.prog 8 #[.agg (dval d sa sc ca cc), .agg (LAYV n b), .agg (FALLV at0 ka keep.length kc)] w fun e w' => e = .returned (.bool true) ∧ Fr0 w w' := by
  have HV := Lib.hid hv
  have HSH := Lib.hid hsh
  have hs1 : (w.alloc (.cells (dval d sa sc ca cc) 39)).heap.size = w.heap.size + 1 := by simp
  have hs2 : ((w.alloc (.cells (dval d sa sc ca cc) 39)).alloc (.cells (LAYV n b) 47)).heap.size = w.heap.size + 1 + 1 := by simp
  have HX0 : Hid (Bk (((w.alloc (.cells (dval d sa sc ca cc) 39)).alloc (.cells (LAYV n b) 47)).alloc (.cells (FALLV at0 ka keep.length kc) 56)) w.heap.size (dval d sa sc ca cc) 39) := Lib.hid (Bk.alloc (Bk.alloc (Bk.new w _) _) _)
  have HL0 : Hid (Bk (((w.alloc (.cells (dval d sa sc ca cc) 39)).alloc (.cells (LAYV n b) 47)).alloc (.cells (FALLV at0 ka keep.length kc) 56)) (w.heap.size + 1) (LAYV n b) 47) := Lib.hid (Bk.alloc (by have := Bk.new (w.alloc (.cells (dval d sa sc ca cc) 39)) (.cells (LAYV n b) 47); rwa [hs1] at this) _)
  have HG0 : Hid (Bk (((w.alloc (.cells (dval d sa sc ca cc) 39)).alloc (.cells (LAYV n b) 47)).alloc (.cells (FALLV at0 ka keep.length kc) 56)) (w.heap.size + 1 + 1) (FALLV at0 ka keep.length kc) 56) := Lib.hid (by have := Bk.new ((w.alloc (.cells (dval d sa sc ca cc) 39)).alloc (.cells (LAYV n b) 47)) (.cells (FALLV at0 ka keep.length kc) 56); rwa [hs2] at this)
  have HF0 : Hid (Fr0 w (((w.alloc (.cells (dval d sa sc ca cc) 39)).alloc (.cells (LAYV n b) 47)).alloc (.cells (FALLV at0 ka keep.length kc) 56))) := Lib.hid (Fr.alloc (Fr.alloc (Fr.alloc (Fr.refl _ _) _) _) _)
  have hws : (Lit.int .i64 (d.S.length : Int)).wf = true := wf_nat (Nat.le_trans hv.sn hv.sm)
  have HAL : Hid (∀ W, Fr0 w W → Calls Tryd.prog 9 #[] W fun e w' => e = .returned (.bool true) ∧ Fr0 W w') := Lib.hid (fun W f => alive_calls W (hsh.keep0 f))
  have HGR : Hid (∀ W, Fr0 w W → Calls Tryd.prog 20 #[.agg (dval d sa sc ca cc)] W fun e w' => e = .returned (.bool (decide (300 < d.C.length))) ∧ Fr0 W w') := Lib.hid (fun W f => great_calls d sa sc ca cc W (hv.keep f))
  have HDC : Hid (∀ W s1 n1 c1 m1, DV W d s1 n1 c1 m1 → Calls Tryd.prog 21 #[.agg (dval d s1 n1 c1 m1)] W fun e w' => ∃ sa' sc' ca' cc', e = .returned (.agg (dval d sa' sc' ca' cc')) ∧ DV w' d sa' sc' ca' cc' ∧ Fr0 W w') := Lib.hid (fun W s1 n1 c1 m1 h => copy_calls d s1 n1 c1 m1 W hok h hS hC)
  have HHF : Hid (∀ W, Calls Tryd.prog 17 #[.int .i64 (d.S.length : Int)] W fun e w' => e = .returned (.int .i64 (half (d.S.length : Int))) ∧ w' = W) := Lib.hid (fun W => half_calls _ W hws)
  obtain ⟨⟨M, E⟩, hLX⟩ : ∃ z, loadX d = z := ⟨_, rfl⟩
  obtain ⟨hMo, hMl⟩ := load_M hLX
  have HLX := Lib.hid hLX
  have HMO := Lib.hid hMo
  have HML := Lib.hid hMl
  have HLD : Hid (∀ W p s1 n1 c1 m1, Fr0 w W → DAt W p d s1 n1 c1 m1 → Calls Tryd.prog 29 #[.pointer (some ⟨p, 0, none⟩)] W fun e w' => ∃ a c, e = .returned (.tuple #[.agg (rval M a c), .int .i64 E]) ∧ RV w' M a c ∧ Fr0 W w') := Lib.hid (fun W p s1 n1 c1 m1 f h => by have := load_calls p d s1 n1 c1 m1 W hok h (hsh.keep0 f); rwa [hLX] at this)
  have HLG : Hid (∀ W p D s1 n1 c1 m1, Fr0 w W → D.ok → DAt W p D s1 n1 c1 m1 → Calls Tryd.prog 29 #[.pointer (some ⟨p, 0, none⟩)] W fun e w' => ∃ a c, e = .returned (.tuple #[.agg (rval (loadX D).1 a c), .int .i64 (loadX D).2]) ∧ RV w' (loadX D).1 a c ∧ Fr0 W w') := Lib.hid (fun W p D s1 n1 c1 m1 f hD h => load_calls p D s1 n1 c1 m1 W hD h (hsh.keep0 f))
  have HRC : Hid (∀ W a c, RV W M a c → Calls Tryd.prog 10 #[.agg (rval M a c)] W fun e w' => ∃ a' c', e = .returned (.agg (rval M a' c')) ∧ RV w' M a' c' ∧ Fr0 W w') := Lib.hid (fun W a c h => (rmcopy_calls M a c W h (by omega)).mono (by rintro e w' ⟨g, cap, cur, h1, h2, h3, h4⟩; exact ⟨_, _, h1, ⟨OwnG.rd h3, OwnG.room h3, OwnG.max h3⟩, h4⟩))
  have HWR : Hid (∀ D M p r W, D.ok → M.ok → D.C.length ≤ 900 → r ≠ p → Sh W → PS W p r D M → Calls Tryd.prog 25 #[.pointer (some ⟨p, 0, none⟩), .pointer (some ⟨r, 0, none⟩), .int .i64 n, .agg (b.map B).toArray] W fun e w' => e = .returned (.int .i64 (wrX D M n b).1) ∧ PS w' p r (wrX D M n b).2.1 (wrX D M n b).2.2 ∧ Fr (fun i => i = p ∨ i = r) W w') := Lib.hid (fun D M p r W hD hM hc hrp hs h => by
    obtain ⟨⟨sa, sc, ca, cc, h1⟩, a, c, h2, h3⟩ := h
    exact (write_calls p r D sa sc ca cc M a c b n W hD h1 hM h3 hb h2 hrp hs hn hc).mono (fun e w' h => ⟨h.1, ⟨h.2.1, h.2.2.1⟩, h.2.2.2⟩))
  have HWO : Hid (∀ D M, D.ok → M.ok → (wrX D M n b).2.1.ok ∧ (wrX D M n b).2.2.ok ∧ (wrX D M n b).2.2.ps.length ≤ M.ps.length + 1) := Lib.hid (fun D M hD hM => wrX_ok hD hM hn hb)
  have HPL : Hid (∀ (k : Int), 0 ≤ k → d.C = [] → E = 0 → (∀ i, i < 4 → (secAt d (tsec (half (d.S.length : Int)) i)).nw = false) → ((wrX { d with fuse := k } M n b).1 = (wrX { d with fuse := -1 } M n b).1 ∨ (wrX { d with fuse := k } M n b).1 = 3) ∧ crashE (wrX { d with fuse := k } M n b).2.1 = 0 ∧ (loadX (crashD (wrX { d with fuse := k } M n b).2.1 keep)).2 = 0 ∧ ((loadX (crashD (wrX { d with fuse := k } M n b).2.1 keep)).1 = M ∨ ((wrX { d with fuse := -1 } M n b).1 = 0 ∧ (loadX (crashD (wrX { d with fuse := k } M n b).2.1 keep)).1 = (wrX { d with fuse := -1 } M n b).2.2)) ∧ ((wrX { d with fuse := k } M n b).1 = 0 → (loadX (crashD (wrX { d with fuse := k } M n b).2.1 keep)).1 = (wrX { d with fuse := -1 } M n b).2.2)) := Lib.hid (fun k hk hC hE hnw => by
    subst hE
    have hp := load_parts hLX
    obtain ⟨h1, h2, g, h3, h4, h5⟩ := whole (y := { d with fuse := -1 }) (z := { d with fuse := k }) (n := n) (b := b) (keep := keep) hLX hC hnw ⟨rfl, rfl, hp.2.1, (by show (-1 : Int) < 0; decide), hp.2.1⟩ rfl rfl
    have hr : crashE (wrX { d with fuse := k } M n b).2.1 = 0 := by unfold crashE; rw [right0, h2]; rfl
    rw [h3]
    exact ⟨h1, hr, rfl, h4, h5⟩)
  have HAM : Hid (E = 0 → ∀ x : Int, -1 ≤ x → armE d x = 0 ∧ armD d x = { d with fuse := x }) := Lib.hid (fun hE x hx => by subst hE; exact arm_up (load_parts hLX).1 hx)
  have HDK : Hid (∀ x : Int, -1 ≤ x → x ≤ 100 → ({ d with fuse := x } : Dk).ok) := Lib.hid (fun x h0 h1 => ⟨hok.s, hok.c, wf_small2 h0 h1⟩)
  have HAR : Hid (∀ x p W s1 n1 c1 m1, DAt W p d s1 n1 c1 m1 → Calls Tryd.prog 30 #[.pointer (some ⟨p, 0, none⟩), .int .i64 x] W fun e w' => e = .returned (.int .i64 (armE d x)) ∧ Aft W w' p (armD d x) s1 n1 c1 m1) := Lib.hid (fun x p W s1 n1 c1 m1 h => arm_calls p x d s1 n1 c1 m1 W hok h)
  have HKB : Hid (∀ a, ka = some a → keep ≠ [] → a.block < w.heap.size) := Lib.hid (fun a e hl => by
    subst e
    obtain ⟨b', o', e, hb', -⟩ := RdG.form hrd (List.length_pos_iff.2 hl) (fun _ => by simp)
    cases e
    exact hb')
  have HCR : Hid (∀ D p W s1 n1 c1 m1, D.ok → DAt W p D s1 n1 c1 m1 → RdB W ka keep → w.heap.size ≤ p → Calls Tryd.prog 31 #[.pointer (some ⟨p, 0, none⟩), .slice ka keep.length kc] W fun e w' => e = .returned (.int .i64 (crashE D)) ∧ Now W w' p (crashD D keep)) := Lib.hid (fun D p W s1 n1 c1 m1 hD h hr hp => crash_calls p ka kc keep D s1 n1 c1 m1 W hD h hkc hkm hr (fun a e hl => by have := HKB.out a e hl; omega))
  have HRD := Lib.hid hrd
  have HOK := Lib.hid hok
  have HBL := Lib.hid hb
  have HIL : Hid ((Tryd.prog.info? 27).map (·.size) = some (b.map B).length) := Lib.hid (by rw [info_b, List.length_map, hb])
  have HID : Hid (∀ d a b c e, (Tryd.prog.info? 39).map (·.size) = some (dval d a b c e).size) := Lib.hid (fun _ _ _ _ _ => info_d)
  have HDO : Hid (∀ d a b c e, (dval d a b c e).all (·.oneCell') = true) := Lib.hid (fun _ _ _ _ _ => dval_one _ _ _ _ _)
  have HIR : Hid (∀ m a c, (Tryd.prog.info? 24).map (·.size) = some (rval m a c).size) := Lib.hid (fun _ _ _ => info_r _ _)
  have HRO : Hid (∀ m a c, (rval m a c).all (·.oneCell') = true) := Lib.hid (fun _ _ _ => RC_all _ _ _ _)
  have hzd : ∀ W, (zeroValue 39).run Tryd.prog W = .ok (.agg DZ) W := by intro W; kernel_rfl
  have hzr := zero_r
  have g00 : (((w.alloc (.cells (dval d sa sc ca cc) 39)).alloc (.cells (LAYV n b) 47)).alloc (.cells (FALLV at0 ka keep.length kc) 56)).cell? ⟨(w.heap.size + 1 + 1), 0, none⟩ = some (.int .i64 at0) := Bk.cell HG0.out 0
  obtain ⟨LC, hLC⟩ : ∃ z, d.C.length = z := ⟨_, rfl⟩
  have HLC := Lib.hid hLC
  clear hs1 hs2 hLC
  by_cases hh : half (d.S.length : Int) = 0
  · rw [hh] at HHF
    clear hv hok hS hC hn hb hsh hws hMo hMl hrd hLX hh hat hkc hkm
    go_enter Tryd.func8, Tryd.ntmps8
    go_wp2_with (first | (go_at_call 9; (with_reducible refine (HAL.out _ HF0.out).mono ?_); rintro e w1 ⟨rfl, hf1⟩; have HX1 := Lib.hid (Fr.keep hf1 HX0.out (fun h => h)); have HL1 := Lib.hid (Fr.keep hf1 HL0.out (fun h => h)); have HG1 := Lib.hid (Fr.keep hf1 HG0.out (fun h => h)); have HF1 := Lib.hid (HF0.out.then0 hf1); clear hf1) | ((with_reducible show wpList _ _ _ ({ dst := _, op := Op.load 39 _, type := _, pos := _, after := _, guard := _ } :: _) _ _); refine wpList_load_row_g (by rfl) 39 _ rfl w.heap.size rfl 39 (dval d sa sc ca cc) (0, 0) _ HX2.out Tryd.underlying39 rfl (HID.out _ _ _ _ _) ?_) | ((with_reducible show wpList _ _ _ ({ dst := _, op := Op.load 39 _, type := _, pos := _, after := _, guard := _ } :: _) _ _); refine wpList_load_row_g (by rfl) 39 _ rfl w.heap.size rfl 39 (dval d sa sc ca cc) (0, 0) _ HX1.out Tryd.underlying39 rfl (HID.out _ _ _ _ _) ?_) | (go_at_call 20; (with_reducible refine (HGR.out _ HF1.out).mono ?_); rintro e w2 ⟨rfl, hf2⟩; have HX2 := Lib.hid (Fr.keep hf2 HX1.out (fun h => h)); have HL2 := Lib.hid (Fr.keep hf2 HL1.out (fun h => h)); have HG2 := Lib.hid (Fr.keep hf2 HG1.out (fun h => h)); have HF2 := Lib.hid (HF1.out.then0 hf2); have g20 : w2.cell? ⟨(w.heap.size + 1 + 1), 0, none⟩ = some (.int .i64 at0) := Bk.cell HG2.out 0; clear hf2) | (go_at_call 21; (with_reducible refine (HDC.out _ _ _ _ _ (HV.out.keep HF2.out)).mono ?_); rintro e w3 ⟨s1, n1, c1, m1, rfl, hv3, hf3⟩; have HZ3 := Lib.hid (Bk.new w3 (.cells DZ 39)); have hfr : Fr0 w3 ((w3.alloc (.cells DZ 39)).setRow w3.heap.size (dval d s1 n1 c1 m1)) := ArrKit.Fr.row (Fr.alloc (Fr.refl _ _) _) _ _ (.inl (Nat.le_refl _)); have hfx := hf3.then0 hfr; have HX4 := Lib.hid (Fr.keep hfx HX2.out (fun h => h)); have HL4 := Lib.hid (Fr.keep hfx HL2.out (fun h => h)); have HG4 := Lib.hid (Fr.keep hfx HG2.out (fun h => h)); have HF4 := Lib.hid (HF2.out.then0 hfx); have HP4 : Hid (DAt ((w3.alloc (.cells DZ 39)).setRow w3.heap.size (dval d s1 n1 c1 m1)) w3.heap.size d s1 n1 c1 m1) := Lib.hid ⟨ArrKit.Bk.row HZ3.out _, hv3.keep hfr⟩; clear hv3 hf3 hfr hfx) | ((with_reducible show wpList _ _ _ ({ dst := _, op := Op.store 39 _ _, type := _, pos := _, after := _, guard := _ } :: _) _ _); refine wpList_store_row rfl 39 _ _ rfl w3.heap.size (dval d s1 n1 c1 m1) rfl rfl 39 DZ HZ3.out (HID.out _ _ _ _ _) rfl (HDO.out _ _ _ _ _) ?_) | (go_at_call 29; (with_reducible refine (HLD.out _ _ _ _ _ _ HF4.out HP4.out).mono ?_); rintro e w5 ⟨a5, k5, rfl, hv5, hf5⟩; have HZ5 := Lib.hid (Bk.new w5 (.cells RZ 24)); have hfr : Fr0 w5 ((w5.alloc (.cells RZ 24)).setRow w5.heap.size (rval M a5 k5)) := ArrKit.Fr.row (Fr.alloc (Fr.refl _ _) _) _ _ (.inl (Nat.le_refl _)); have hfx := hf5.then0 hfr; have HX6 := Lib.hid (Fr.keep hfx HX4.out (fun h => h)); have HL6 := Lib.hid (Fr.keep hfx HL4.out (fun h => h)); have HG6 := Lib.hid (Fr.keep hfx HG4.out (fun h => h)); have HF6 := Lib.hid (HF4.out.then0 hfx); have HM6 : Hid (Bk ((w5.alloc (.cells RZ 24)).setRow w5.heap.size (rval M a5 k5)) w5.heap.size (rval M a5 k5) 24) := Lib.hid (ArrKit.Bk.row HZ5.out _); have HMV6 : Hid (RV ((w5.alloc (.cells RZ 24)).setRow w5.heap.size (rval M a5 k5)) M a5 k5) := Lib.hid (hv5.keep hfr); have x60 : ((w5.alloc (.cells RZ 24)).setRow w5.heap.size (rval M a5 k5)).cell? ⟨w.heap.size, 0, none⟩ = some (.slice sa d.S.length sc) := Bk.cell HX6.out 0; have HSZ5 : Hid ((w.heap.size + 1 + 1) < w5.heap.size) := Lib.hid (Bk.lt (Fr.keep hf5 HG4.out (fun h => h))); have x61 : ((w5.alloc (.cells RZ 24)).setRow w5.heap.size (rval M a5 k5)).cell? ⟨w.heap.size, 1, none⟩ = some (.slice ca LC cc) := (Bk.cell HX6.out 1).trans (by rw [← HLC.out]; rfl); clear hv5 hf5 hfr hfx) | ((with_reducible show wpList _ _ _ ({ dst := _, op := Op.store 24 _ _, type := _, pos := _, after := _, guard := _ } :: _) _ _); refine wpList_store_row rfl 24 _ _ rfl w5.heap.size (rval M a5 k5) rfl rfl 24 RZ HZ5.out (HIR.out _ _ _) rfl (HRO.out _ _ _) ?_) | (go_at_call 17; (with_reducible refine (HHF.out _).mono ?_); rintro e w7 ⟨rfl, rfl⟩))
    all_goals go_ret
    all_goals first | exact ⟨rfl, HF6.out⟩ | exact ⟨rfl, HF2.out⟩
  obtain ⟨hn0, hnn⟩ : ∃ z : Nat, half (d.S.length : Int) = z := ⟨(half (d.S.length : Int)).toNat, by have := half_lo hh; omega⟩
  obtain ⟨sb, so, rfl, hsb, hra⟩ := RdG.form hv.rs (by have := half_lo hh; omega) Sec.pos
  have HNR : Hid (∀ i (hi : i < d.S.length) W, Fr0 w W → W.cell? ⟨sb, so + i * 130 + 128, none⟩ = some (.bool d.S[i].nr) ∧ W.cell? ⟨sb, so + i * 130 + 129, none⟩ = some (.bool d.S[i].nw)) := Lib.hid (fun i hi W f => by
    have hx := hok.s _ (List.getElem_mem hi)
    have h1 := hra i hi 128 _ (Sec.nr_at hx)
    have h2 := hra i hi 129 _ (Sec.nw_at hx)
    exact ⟨(f.cell sb _ hsb (fun h => h)).trans h1, (f.cell sb _ hsb (fun h => h)).trans h2⟩)
  have hlo := half_lo hh
  have HLO := Lib.hid hlo
  have h0b : ((hn0 : Int) == 0) = false := by simpa using (by omega : ¬ (hn0 : Int) = 0)
  rw [hnn] at HHF
  have HNN := Lib.hid hnn
  clear hv hok hS hC hn hb hsh hws hMo hMl hrd hLX hlo hat hkc hkm hsb hra
  have hhn : 4 ≤ hn0 ∧ 2 * hn0 + 20 = d.S.length := by have := HLO.out; have := HNN.out; omega
  have HHN := Lib.hid hhn
  clear hh hnn
  go_enter Tryd.func8, Tryd.ntmps8
  go_wp2_with (first | (go_at_call 9; (with_reducible refine (HAL.out _ HF0.out).mono ?_); rintro e w1 ⟨rfl, hf1⟩; have HX1 := Lib.hid (Fr.keep hf1 HX0.out (fun h => h)); have HL1 := Lib.hid (Fr.keep hf1 HL0.out (fun h => h)); have HG1 := Lib.hid (Fr.keep hf1 HG0.out (fun h => h)); have HF1 := Lib.hid (HF0.out.then0 hf1); clear hf1) | ((with_reducible show wpList _ _ _ ({ dst := _, op := Op.load 39 _, type := _, pos := _, after := _, guard := _ } :: _) _ _); refine wpList_load_row_g (by rfl) 39 _ rfl w.heap.size rfl 39 (dval d (some ⟨sb, so, none⟩) sc ca cc) (0, 0) _ HX2.out Tryd.underlying39 rfl (HID.out _ _ _ _ _) ?_) | ((with_reducible show wpList _ _ _ ({ dst := _, op := Op.load 39 _, type := _, pos := _, after := _, guard := _ } :: _) _ _); refine wpList_load_row_g (by rfl) 39 _ rfl w.heap.size rfl 39 (dval d (some ⟨sb, so, none⟩) sc ca cc) (0, 0) _ HX1.out Tryd.underlying39 rfl (HID.out _ _ _ _ _) ?_) | (go_at_call 20; (with_reducible refine (HGR.out _ HF1.out).mono ?_); rintro e w2 ⟨rfl, hf2⟩; have HX2 := Lib.hid (Fr.keep hf2 HX1.out (fun h => h)); have HL2 := Lib.hid (Fr.keep hf2 HL1.out (fun h => h)); have HG2 := Lib.hid (Fr.keep hf2 HG1.out (fun h => h)); have HF2 := Lib.hid (HF1.out.then0 hf2); have g20 : w2.cell? ⟨(w.heap.size + 1 + 1), 0, none⟩ = some (.int .i64 at0) := Bk.cell HG2.out 0; clear hf2) | (go_at_call 21; (with_reducible refine (HDC.out _ _ _ _ _ (HV.out.keep HF2.out)).mono ?_); rintro e w3 ⟨s1, n1, c1, m1, rfl, hv3, hf3⟩; have HZ3 := Lib.hid (Bk.new w3 (.cells DZ 39)); have hfr : Fr0 w3 ((w3.alloc (.cells DZ 39)).setRow w3.heap.size (dval d s1 n1 c1 m1)) := ArrKit.Fr.row (Fr.alloc (Fr.refl _ _) _) _ _ (.inl (Nat.le_refl _)); have hfx := hf3.then0 hfr; have HX4 := Lib.hid (Fr.keep hfx HX2.out (fun h => h)); have HL4 := Lib.hid (Fr.keep hfx HL2.out (fun h => h)); have HG4 := Lib.hid (Fr.keep hfx HG2.out (fun h => h)); have HF4 := Lib.hid (HF2.out.then0 hfx); have HP4 : Hid (DAt ((w3.alloc (.cells DZ 39)).setRow w3.heap.size (dval d s1 n1 c1 m1)) w3.heap.size d s1 n1 c1 m1) := Lib.hid ⟨ArrKit.Bk.row HZ3.out _, hv3.keep hfr⟩; clear hv3 hf3 hfr hfx) | ((with_reducible show wpList _ _ _ ({ dst := _, op := Op.store 39 _ _, type := _, pos := _, after := _, guard := _ } :: _) _ _); refine wpList_store_row rfl 39 _ _ rfl w3.heap.size (dval d s1 n1 c1 m1) rfl rfl 39 DZ HZ3.out (HID.out _ _ _ _ _) rfl (HDO.out _ _ _ _ _) ?_) | (go_at_call 29; (with_reducible refine (HLD.out _ _ _ _ _ _ HF4.out HP4.out).mono ?_); rintro e w5 ⟨a5, k5, rfl, hv5, hf5⟩; have HZ5 := Lib.hid (Bk.new w5 (.cells RZ 24)); have hfr : Fr0 w5 ((w5.alloc (.cells RZ 24)).setRow w5.heap.size (rval M a5 k5)) := ArrKit.Fr.row (Fr.alloc (Fr.refl _ _) _) _ _ (.inl (Nat.le_refl _)); have hfx := hf5.then0 hfr; have HX6 := Lib.hid (Fr.keep hfx HX4.out (fun h => h)); have HL6 := Lib.hid (Fr.keep hfx HL4.out (fun h => h)); have HG6 := Lib.hid (Fr.keep hfx HG4.out (fun h => h)); have HF6 := Lib.hid (HF4.out.then0 hfx); have HM6 : Hid (Bk ((w5.alloc (.cells RZ 24)).setRow w5.heap.size (rval M a5 k5)) w5.heap.size (rval M a5 k5) 24) := Lib.hid (ArrKit.Bk.row HZ5.out _); have HMV6 : Hid (RV ((w5.alloc (.cells RZ 24)).setRow w5.heap.size (rval M a5 k5)) M a5 k5) := Lib.hid (hv5.keep hfr); have x60 : ((w5.alloc (.cells RZ 24)).setRow w5.heap.size (rval M a5 k5)).cell? ⟨w.heap.size, 0, none⟩ = some (.slice (some ⟨sb, so, none⟩) d.S.length sc) := Bk.cell HX6.out 0; have HSZ5 : Hid ((w.heap.size + 1 + 1) < w5.heap.size) := Lib.hid (Bk.lt (Fr.keep hf5 HG4.out (fun h => h))); have x61 : ((w5.alloc (.cells RZ 24)).setRow w5.heap.size (rval M a5 k5)).cell? ⟨w.heap.size, 1, none⟩ = some (.slice ca LC cc) := (Bk.cell HX6.out 1).trans (by rw [← HLC.out]; rfl); clear hv5 hf5 hfr hfx) | ((with_reducible show wpList _ _ _ ({ dst := _, op := Op.store 24 _ _, type := _, pos := _, after := _, guard := _ } :: _) _ _); refine wpList_store_row rfl 24 _ _ rfl w5.heap.size (rval M a5 k5) rfl rfl 24 RZ HZ5.out (HIR.out _ _ _) rfl (HRO.out _ _ _) ?_) | (go_at_call 17; (with_reducible refine (HHF.out _).mono ?_); rintro e w7 ⟨rfl, rfl⟩))
  all_goals (try simp only [bne_iff_ne, ne_eq, beq_iff_eq, bne_eq_false_iff_eq, beq_eq_false_iff_ne] at *)
  all_goals first | (go_ret; exact ⟨rfl, HF6.out⟩) | (go_ret; exact ⟨rfl, HF2.out⟩) | skip
  have hE : E = 0 := by assumption
  subst hE
  have hLC : LC = 0 := by assumption
  have HAT0 : Hid (0 ≤ at0) := Lib.hid (by omega)
  have HCN : Hid (d.C = []) := Lib.hid (by have := HLC.out; exact List.length_eq_zero_iff.1 (by omega))
  have hma : w5.heap.size < ((w5.alloc (.cells RZ 24)).setRow w5.heap.size (rval M a5 k5)).heap.size := Bk.lt HM6.out
  have hmx : (w.heap.size + 1 + 1) < w5.heap.size := HSZ5.out
  clear HSZ5 HX1 HL1 HG1 HF1 HX2 HL2 HG2 HF2 HX4 HL4 HG4 HF4 HP4 HZ3 HZ5 g00 g20 x60 x61 HX0 HL0 HG0 HF0 HAL HGR hLC
  generalize ((w5.alloc (.cells RZ 24)).setRow w5.heap.size (rval M a5 k5)) = wA at *
  generalize w5.heap.size = mA at *
  have HMA : Hid (mA < wA.heap.size ∧ (w.heap.size + 1 + 1) < mA) := Lib.hid ⟨hma, hmx⟩
  clear hma hmx
  go_loopw [11] (fun jj W => ∃ k : Nat, k ≤ 4 ∧ jj = .int .i64 k ∧ (∀ i, i < k → (secAt d (tsec (hn0 : Int) i)).nw = false) ∧ Fr0 wA W) (fun jj _ => 4 - (intOf jj).toNat)
  case atStart => exact ⟨0, by omega, rfl, fun i hi => absurd hi (Nat.not_lt_zero i), Fr.refl _ _⟩
  case round =>
    obtain ⟨k, hk, rfl, hnw, hfk⟩ := hrel
    have HNW := Lib.hid hnw
    have HFK := Lib.hid hfk
    have HFW := Lib.hid (HF6.out.then0 hfk)
    have x0 : wr.cell? ⟨w.heap.size, 0, none⟩ = some (.slice (some ⟨sb, so, none⟩) d.S.length sc) := Bk.cell (hfk.keep HX6.out (fun h => h)) 0
    clear hnw hfk
    by_cases hk4 : k < 4
    · have HK := Lib.hid hk4
      obtain ⟨kq, hkq⟩ : ∃ q : Nat, k / 2 = q := ⟨_, rfl⟩
      obtain ⟨kr, hkr⟩ : ∃ q : Nat, k % 2 = q := ⟨_, rfl⟩
      have hq1 : Int.tdiv (k : Int) 2 = (kq : Int) := by rw [← hkq]; rfl
      have hr1 : Int.tmod (k : Int) 2 = (kr : Int) := by rw [← hkr]; rfl
      have hmu : kq * hn0 ≤ hn0 := by
        have : kq = 0 ∨ kq = 1 := by omega
        rcases this with rfl | rfl <;> omega
      have hlim := HLO.out
      obtain ⟨xi, hxi⟩ : ∃ x : Nat, kq * hn0 + kr = x := ⟨_, rfl⟩
      have hmi : (kq : Int) * (hn0 : Int) = ((kq * hn0 : Nat) : Int) := (Int.natCast_mul _ _).symm
      have hb0 : 0 ≤ (kq : Int) ∧ (kq : Int) ≤ 100000 := by omega
      have hb1 : 0 ≤ (kq : Int) * (hn0 : Int) ∧ (kq : Int) * (hn0 : Int) ≤ 100000 := by omega
      have hb2 : 0 ≤ (kq : Int) * (hn0 : Int) + (kr : Int) ∧ (kq : Int) * (hn0 : Int) + (kr : Int) ≤ 100000 ∧ (kq : Int) * (hn0 : Int) + (kr : Int) = (xi : Int) := by omega
      have hxn : xi < d.S.length := by omega
      have hxr : 0 ≤ (xi : Int) ∧ (xi : Int) < (d.S.length : Int) := by omega
      have hts : tsec (hn0 : Int) k = (xi : Int) := by
        unfold tsec; rw [hkq, hkr, ← hxi]; simp
      have hsx : (secAt d (tsec (hn0 : Int) k)).nw = (d.S[xi]).nw := by
        rw [hts]; unfold secAt
        rw [List.getD_eq_getElem?_getD, Int.toNat_natCast, List.getElem?_eq_getElem hxn, Option.getD_some]
      obtain ⟨c128, c129⟩ := HNR.out xi hxn wr HFW.out
      generalize (d.S[xi]).nr = nr at *
      generalize (d.S[xi]).nw = nw at *
      have HSX := Lib.hid hsx
      have HNK : Hid (nw = false → ∀ i, i < k + 1 → (secAt d (tsec (hn0 : Int) i)).nw = false) := Lib.hid (fun h i hi => by
        by_cases e : i = k
        · subst e; rw [HSX.out]; exact h
        · exact HNW.out i (by omega))
      clear hsx hts hlim hkq hkr hmu hxi hmi
      have hw1 : IntKind.i64.wrap ((kq : Int) * (hn0 : Int)) = (kq : Int) * (hn0 : Int) := wrapi_small hb1.1 hb1.2
      have hw2 : IntKind.i64.wrap ((kq : Int) * (hn0 : Int) + (kr : Int)) = (xi : Int) := (wrapi_small hb2.1 hb2.2.1).trans hb2.2.2
      have hs3 := hb2.2.2
      go_wp2_with fail
      all_goals first | (go_ret; exact ⟨rfl, HFW.out⟩) | skip
      all_goals go_roundw
      case rel => exact ⟨k + 1, by have := HK.out; omega, by go_num, HNK.out (by simp_all), HFK.out⟩
      case measure => have := HK.out; simp [intOf]; omega
    · have hke : k = 4 := by omega
      subst hke
      go_wp2
      clear HFW
      have HX7 := Lib.hid (HFK.out.keep HX6.out (fun h => h))
      have HL7 := Lib.hid (HFK.out.keep HL6.out (fun h => h))
      have HG7 := Lib.hid (HFK.out.keep HG6.out (fun h => h))
      have HM7 := Lib.hid (HFK.out.keep HM6.out (fun h => h))
      have HMV7 := Lib.hid (HMV6.out.keep HFK.out)
      have HV7 := Lib.hid (HV.out.keep (HF6.out.then0 HFK.out))
      have HF7 := Lib.hid (HF6.out.then0 HFK.out)
      have HMB : Hid (mA < wr.heap.size ∧ (w.heap.size + 1 + 1) < mA) := Lib.hid ⟨Nat.lt_of_lt_of_le HMA.out.1 HFK.out.size, HMA.out.2⟩
      have HPF : Hid (∀ k : Int, 0 ≤ k → _) := Lib.hid (fun k hk => HPL.out k hk HCN.out trivial (by rw [HNN.out]; exact HNW.out))
      have HAM0 := Lib.hid (HAM.out trivial)
      clear HX6 HL6 HG6 HM6 HMV6 HV HF6 HFK HMA HPL HNW HAM HNR HLO HNN hhn HHN x0 HLD HKB HCN HLX h0b HHF
      rename_i K hKA hTr
      have HREST : Hid (∀ (W : World) (pA pB : Nat) s2 n2 c2 m2 a2 k2, Fr (fun _ => False) wr W → DAt W pA d s2 n2 c2 m2 → Bk W pB (rval M a2 k2) 24 → RV W M a2 k2 → pA ≠ pB → wr.heap.size ≤ pA → wr.heap.size ≤ pB → K { tmps := #[Value.agg (dval d (some { block := sb, off := so }) sc ca cc), Value.agg (LAYV n b), Value.agg (FALLV at0 ka keep.length kc), Value.pointer (some ⟨w.heap.size, 0, none⟩), Value.pointer (some ⟨w.heap.size + 1, 0, none⟩), Value.pointer (some ⟨w.heap.size + 1 + 1, 0, none⟩), u6, Value.pointer (some ⟨w3.heap.size, 0, none⟩), Value.pointer (some ⟨mA, 0, none⟩), Value.int IntKind.i64 0, Value.int IntKind.i64 ↑hn0, Value.int IntKind.i64 4, .pointer (some ⟨pA, 0, none⟩), .pointer (some ⟨pB, 0, none⟩), undef, undef, undef, undef, undef, undef, Value.bool true, Value.bool false, Value.agg (dval d (some { block := sb, off := so }) sc ca cc), Value.bool false, Value.bool false, Value.pointer (some ⟨w.heap.size + 1 + 1, 0, none⟩), Value.int IntKind.i64 at0, Value.bool (decide (at0 < 0)), Value.bool (decide (at0 < 0)), Value.agg (dval d (some { block := sb, off := so }) sc ca cc), Value.agg (dval d s1 n1 c1 m1), Value.tuple #[Value.agg (rval M a5 k5), Value.int IntKind.i64 0], Value.tuple #[Value.agg (rval M a5 k5), Value.int IntKind.i64 0], Value.agg (rval M a5 k5), Value.int IntKind.i64 0, Value.int IntKind.i64 0, Value.bool false, Value.bool false, Value.pointer (some ⟨w.heap.size, 1, none⟩), Value.slice ca 0 cc, Value.int IntKind.i64 0, Value.bool false, Value.bool false, Value.bool false, Value.pointer (some ⟨w.heap.size, 0, none⟩), Value.slice (some { block := sb, off := so }) d.S.length sc, Value.int IntKind.i64 ↑d.S.length, Value.int IntKind.i64 ↑hn0, Value.bool false, Value.bool false, Value.pointer (some ⟨w.heap.size, 0, none⟩), Value.slice (some { block := sb, off := so }) d.S.length sc, Value.int IntKind.i64 ↑d.S.length, Value.int IntKind.i64 ↑hn0, Value.int IntKind.i64 4, Value.bool false, u56, u57, u58, u59, u60, u61, u62, u63, u64, u65, u66, u67, u68, u69, u70, u71, u72, u73, u74, u75, u76, u77, u78, u79, u80, u81, u82, u83, .agg (dval d (some ⟨sb, so, none⟩) sc ca cc), .agg (dval d s2 n2 c2 m2), .agg (rval M a5 k5), .agg (rval M a2 k2), undef, undef, undef, undef, undef, undef, undef, undef, undef, undef, undef, undef, undef, undef, undef, undef, undef, undef, undef, undef, undef, undef, undef, undef, undef, undef, undef, undef, undef, undef, undef, undef, undef, undef, undef, undef, undef, undef, undef, undef, undef, undef, undef, undef, undef, undef, undef, undef, undef, undef, undef, undef, undef, undef, undef, undef, undef, undef, undef, undef, undef], defers := [] } W) := Lib.hid (by
        as_aux_lemma =>
          intro wE yA pA s2 n2 c2 m2 a2 k2 hf hp hq hrv hpq hlo hlo2
          refine hKA _ _ ?_
          have hx := HX7.out
          have HNE : Hid ((w.heap.size + 1 + 1) < mA ∧ mA < yA ∧ mA < pA ∧ pA ≠ yA) := Lib.hid (by have := HMB.out; exact ⟨this.2, by omega, by omega, fun e => hpq e.symm⟩)
          have HY8 := Lib.hid hp
          have HQ8 := Lib.hid hq
          have HQV8 := Lib.hid hrv
          have HX8 := Lib.hid (hf.keep HX7.out (fun h => h))
          have HL8 := Lib.hid (hf.keep HL7.out (fun h => h))
          have HG8 := Lib.hid (hf.keep HG7.out (fun h => h))
          have HM8 := Lib.hid (hf.keep HM7.out (fun h => h))
          have HMV8 := Lib.hid (HMV7.out.keep hf)
          have HV8 := Lib.hid (HV7.out.keep hf)
          have HF8 := Lib.hid (HF7.out.then0 hf)
          have HP8 : Hid (PS wE yA pA d M) := Lib.hid (PS.of hp hq hrv)
          have HD8 : Hid (PS wE w.heap.size mA d M) := Lib.hid (PS.of ⟨HX8.out, HV8.out⟩ HM8.out HMV8.out)
          obtain ⟨DY, hDY⟩ : ∃ z : Dk, { d with fuse := -1 } = z := ⟨_, rfl⟩
          have HDY : Hid (DY.ok ∧ DY.C.length ≤ 900) := Lib.hid (by rw [← hDY]; exact ⟨HDK.out _ (by omega) (by omega), by show d.C.length ≤ 900; omega⟩)
          have HA1 : Hid (∀ p W s1 n1 c1 m1, DAt W p d s1 n1 c1 m1 → Calls Tryd.prog 30 #[.pointer (some ⟨p, 0, none⟩), .int .i64 (-1)] W fun e w' => e = .returned (.int .i64 0) ∧ Aft W w' p DY s1 n1 c1 m1) := Lib.hid (fun p W s1 n1 c1 m1 h => by have := HAR.out (-1) p W s1 n1 c1 m1 h; rw [(HAM0.out (-1) (by omega)).1, (HAM0.out (-1) (by omega)).2, hDY] at this; exact this)
          have HPG := HPF
          rw [hDY] at HPG
          have HW1 : Hid (∀ W r p, r ≠ p → Sh W → PS W p r DY M → Calls Tryd.prog 25 #[.pointer (some ⟨p, 0, none⟩), .pointer (some ⟨r, 0, none⟩), .int .i64 n, .agg (b.map B).toArray] W fun e w' => e = .returned (.int .i64 (wrX DY M n b).1) ∧ PS w' p r (wrX DY M n b).2.1 (wrX DY M n b).2.2 ∧ Fr (fun i => i = p ∨ i = r) W w') := Lib.hid (fun W r p h1 h2 h3 => HWR.out DY M p r W HDY.out.1 HMO.out HDY.out.2 h1 h2 h3)
          have HO1 := Lib.hid (HWO.out DY M HDY.out.1 HMO.out)
          generalize hAFT : (wrX DY M n b).1 = AFT at *
          generalize hD1 : (wrX DY M n b).2.1 = D1 at *
          generalize hP1 : (wrX DY M n b).2.2 = P1 at *
          clear hf hp hq hrv hlo hlo2 hpq hx HX7 HL7 HG7 HM7 HMV7 HV7 HF7 HPF hDY hAFT hD1 hP1
          go_wp2_with (first | (go_at_call 30; (with_reducible refine (HA1.out _ _ _ _ _ _ HY8.out).mono ?_); rintro e w9 ⟨rfl, ha9⟩; have HD9 : Hid (PS w9 w.heap.size mA d M) := Lib.hid (PS.past HD8.out HOK.out HP8.out (ha9.fr.weaken (fun _ _ h => .inl h)) HNE.out.2.2.2 (by have := HNE.out; omega) (by have := HNE.out; omega) (by have := HNE.out; omega) (by have := HNE.out; omega)); have HP9 : Hid (PS w9 yA pA DY M) := Lib.hid (PS.of ha9.at_ (ha9.fr.keep HQ8.out HNE.out.2.2.2) (RV.past HQV8.out ha9.fr HY8.out.blk)); have HL9 := Lib.hid (ha9.fr.keep HL8.out (by have := HNE.out; omega)); have HG9 := Lib.hid (ha9.fr.keep HG8.out (by have := HNE.out; omega)); have HF9 : Hid (Fr0 w w9) := Lib.hid (HF8.out.then ha9.fr (fun i hi e => by have := HNE.out; omega)); have l90 := lay_cell HL9.out; clear ha9) | ((with_reducible show wpList _ _ _ ({ dst := _, op := Op.load 27 _, type := _, pos := _, after := _, guard := _ } :: _) _ _); refine wpList_load_mid_g (by rfl) 27 _ rfl (w.heap.size + 1) 1 rfl (b.map B) _ (lay_range HL9.out) Tryd.underlying27 rfl HIL.out ?_) | (go_at_call 25; (with_reducible refine (HW1.out _ _ _ HNE.out.2.2.2 (HSH.out.keep0 HF9.out) HP9.out).mono ?_); rintro e w10 ⟨rfl, hps, hfr⟩; have HP10 := Lib.hid hps; have HD10 : Hid (PS w10 w.heap.size mA d M) := Lib.hid (PS.past HD9.out HOK.out HP9.out hfr HNE.out.2.2.2 (by have := HNE.out; omega) (by have := HNE.out; omega) (by have := HNE.out; omega) (by have := HNE.out; omega)); have HL10 := Lib.hid (hfr.keep HL9.out (by have := HNE.out; omega)); have HG10 := Lib.hid (hfr.keep HG9.out (by have := HNE.out; omega)); have HF10 : Hid (Fr0 w w10) := Lib.hid (HF9.out.then hfr (fun i hi e => by have := HNE.out; omega)); clear hps hfr))
          clear HX8 HL8 HG8 HM8 HMV8 HV8 HF8 HP8 HD8 HY8 HQ8 HQV8 HD9 HP9 HL9 HG9 HF9 l90 HA1 HW1 HDY
          obtain ⟨⟨y1, y2, y3, y4, hdd⟩, aM, cM, hm1, hm2⟩ := HD10.out
          have HX10 := Lib.hid hdd.blk
          have HV10 := Lib.hid hdd.v
          have HM10 := Lib.hid hm1
          have HMV10 := Lib.hid hm2
          have HMC : Hid (yA < w10.heap.size ∧ pA < w10.heap.size ∧ mA < w10.heap.size) := Lib.hid (by
            obtain ⟨⟨z1, z2, z3, z4, hd2⟩, z5, z6, hp1, hp2⟩ := HP10.out
            exact ⟨Bk.lt hd2.blk, Bk.lt hp1, Bk.lt hm1⟩)
          clear hdd hm1 hm2
          rename_i K2 hKB
          have HREST2 : Hid (∀ (W : World) (pA9 pB9 : Nat) s3 n3 c3 m3 a3 k3, Fr (fun _ => False) w10 W → DAt W pA9 d s3 n3 c3 m3 → Bk W pB9 (rval M a3 k3) 24 → RV W M a3 k3 → pA9 ≠ pB9 → w10.heap.size ≤ pA9 → w10.heap.size ≤ pB9 → K2 { tmps := #[Value.agg (dval d (some { block := sb, off := so }) sc ca cc), Value.agg (LAYV n b), Value.agg (FALLV at0 ka keep.length kc), Value.pointer (some ⟨w.heap.size, 0, none⟩), Value.pointer (some ⟨w.heap.size + 1, 0, none⟩), Value.pointer (some ⟨w.heap.size + 1 + 1, 0, none⟩), u6, Value.pointer (some ⟨w3.heap.size, 0, none⟩), Value.pointer (some ⟨mA, 0, none⟩), Value.int IntKind.i64 0, Value.int IntKind.i64 ↑hn0, Value.int IntKind.i64 4, Value.pointer (some ⟨yA, 0, none⟩), Value.pointer (some ⟨pA, 0, none⟩), Value.int IntKind.i64 AFT, .pointer (some ⟨pA9, 0, none⟩), .pointer (some ⟨pB9, 0, none⟩), undef, undef, undef, Value.bool true, Value.bool false, Value.agg (dval d (some { block := sb, off := so }) sc ca cc), Value.bool false, Value.bool false, Value.pointer (some ⟨w.heap.size + 1 + 1, 0, none⟩), Value.int IntKind.i64 at0, Value.bool (decide (at0 < 0)), Value.bool (decide (at0 < 0)), Value.agg (dval d (some { block := sb, off := so }) sc ca cc), Value.agg (dval d s1 n1 c1 m1), Value.tuple #[Value.agg (rval M a5 k5), Value.int IntKind.i64 0], Value.tuple #[Value.agg (rval M a5 k5), Value.int IntKind.i64 0], Value.agg (rval M a5 k5), Value.int IntKind.i64 0, Value.int IntKind.i64 0, Value.bool false, Value.bool false, Value.pointer (some ⟨w.heap.size, 1, none⟩), Value.slice ca 0 cc, Value.int IntKind.i64 0, Value.bool false, Value.bool false, Value.bool false, Value.pointer (some ⟨w.heap.size, 0, none⟩), Value.slice (some { block := sb, off := so }) d.S.length sc, Value.int IntKind.i64 ↑d.S.length, Value.int IntKind.i64 ↑hn0, Value.bool false, Value.bool false, Value.pointer (some ⟨w.heap.size, 0, none⟩), Value.slice (some { block := sb, off := so }) d.S.length sc, Value.int IntKind.i64 ↑d.S.length, Value.int IntKind.i64 ↑hn0, Value.int IntKind.i64 4, Value.bool false, u56, u57, u58, u59, u60, u61, u62, u63, u64, u65, u66, u67, u68, u69, u70, u71, u72, u73, u74, u75, u76, u77, u78, u79, u80, u81, u82, u83, Value.agg (dval d (some { block := sb, off := so }) sc ca cc), Value.agg (dval d s2 n2 c2 m2), Value.agg (rval M a5 k5), Value.agg (rval M a2 k2), Value.int IntKind.i64 0, Value.bool false, Value.pointer (some ⟨w.heap.size + 1, 0, none⟩), Value.int IntKind.i64 n, Value.pointer (some ⟨w.heap.size + 1, 1, none⟩), Value.agg (List.map B b).toArray, Value.int IntKind.i64 AFT, .agg (dval d y1 y2 y3 y4), .agg (dval d s3 n3 c3 m3), .agg (rval M aM cM), .agg (rval M a3 k3), undef, undef, undef, undef, undef, undef, undef, undef, undef, undef, undef, undef, undef, undef, undef, undef, undef, undef, undef, undef, undef, undef, undef, undef, undef, undef, undef, undef, undef, undef, undef, undef, undef, undef, undef, undef, undef, undef, undef, undef, undef, undef, undef, undef, undef, undef, undef, undef, undef, undef], defers := [] } W) := Lib.hid (by
            as_aux_lemma =>
              intro wF zA qA s3 n3 c3 m3 a3 k3 hf hp hq hrv hpq hlo hlo2
              refine hKB _ _ ?_
              have HN2 : Hid (qA ≠ zA ∧ (w.heap.size + 1 + 1) < mA ∧ mA < yA ∧ mA < pA ∧ pA ≠ yA ∧ yA < zA ∧ pA < zA ∧ yA < qA ∧ pA < qA) := Lib.hid (by have h1 := HNE.out; have h2 := HMC.out; exact ⟨fun e => hpq e.symm, h1.1, h1.2.1, h1.2.2.1, h1.2.2.2, by omega, by omega, by omega, by omega⟩)
              have HZ11 := Lib.hid hp
              have HQ11 := Lib.hid hq
              have HQV11 := Lib.hid hrv
              have HL11 := Lib.hid (hf.keep HL10.out (fun h => h))
              have HG11 := Lib.hid (hf.keep HG10.out (fun h => h))
              have HF11 := Lib.hid (HF10.out.then0 hf)
              have HS11 : Hid (PS wF zA qA d M) := Lib.hid (PS.of hp hq hrv)
              have HD11 : Hid (PS wF w.heap.size mA d M) := Lib.hid (HD10.out.keep0 hf)
              have HP11 : Hid (PS wF yA pA D1 P1) := Lib.hid (HP10.out.keep0 hf)
              have g110 : wF.cell? ⟨(w.heap.size + 1 + 1), 0, none⟩ = some (.int .i64 at0) := Bk.cell HG11.out 0
              obtain ⟨kk, hkk⟩ : ∃ z, Int.tmod at0 40 = z := ⟨_, rfl⟩
              have hk0 : 0 ≤ kk ∧ kk < 40 := by have h := HAT0.out; rw [← hkk, Int.tmod_eq_emod_of_nonneg h]; omega
              obtain ⟨DW, hDW⟩ : ∃ z : Dk, { d with fuse := kk } = z := ⟨_, rfl⟩
              have HDW : Hid (DW.ok ∧ DW.C.length ≤ 900) := Lib.hid (by rw [← hDW]; exact ⟨HDK.out _ (by omega) (by omega), by show d.C.length ≤ 900; omega⟩)
              have HA2 : Hid (∀ p W s1 n1 c1 m1, DAt W p d s1 n1 c1 m1 → Calls Tryd.prog 30 #[.pointer (some ⟨p, 0, none⟩), .int .i64 kk] W fun e w' => e = .returned (.int .i64 0) ∧ Aft W w' p DW s1 n1 c1 m1) := Lib.hid (fun p W s1 n1 c1 m1 h => by have := HAR.out kk p W s1 n1 c1 m1 h; rw [(HAM0.out kk (by omega)).1, (HAM0.out kk (by omega)).2, hDW] at this; exact this)
              have HW2 : Hid (∀ W r p, r ≠ p → Sh W → PS W p r DW M → Calls Tryd.prog 25 #[.pointer (some ⟨p, 0, none⟩), .pointer (some ⟨r, 0, none⟩), .int .i64 n, .agg (b.map B).toArray] W fun e w' => e = .returned (.int .i64 (wrX DW M n b).1) ∧ PS w' p r (wrX DW M n b).2.1 (wrX DW M n b).2.2 ∧ Fr (fun i => i = p ∨ i = r) W w') := Lib.hid (fun W r p h1 h2 h3 => HWR.out DW M p r W HDW.out.1 HMO.out HDW.out.2 h1 h2 h3)
              have HO2 := Lib.hid (HWO.out DW M HDW.out.1 HMO.out)
              have hpf := HPG.out kk hk0.1
              rw [hDW] at hpf
              obtain ⟨p1, p2, p3, p4, p5⟩ := hpf
              have HC2 : Hid (∀ p W s1 n1 c1 m1, DAt W p (wrX DW M n b).2.1 s1 n1 c1 m1 → RdB W ka keep → w.heap.size ≤ p → Calls Tryd.prog 31 #[.pointer (some ⟨p, 0, none⟩), .slice ka keep.length kc] W fun e w' => e = .returned (.int .i64 0) ∧ Now W w' p (crashD (wrX DW M n b).2.1 keep)) := Lib.hid (fun p W s1 n1 c1 m1 h1 h2 h3 => by have := HCR.out _ p W s1 n1 c1 m1 HO2.out.1 h1 h2 h3; rwa [p2] at this)
              have HL2 : Hid (∀ W p s1 n1 c1 m1, Fr0 w W → DAt W p (crashD (wrX DW M n b).2.1 keep) s1 n1 c1 m1 → Calls Tryd.prog 29 #[.pointer (some ⟨p, 0, none⟩)] W fun e w' => ∃ a c, e = .returned (.tuple #[.agg (rval (loadX (crashD (wrX DW M n b).2.1 keep)).1 a c), .int .i64 0]) ∧ RV w' (loadX (crashD (wrX DW M n b).2.1 keep)).1 a c ∧ Fr0 W w') := Lib.hid (fun W p s1 n1 c1 m1 h1 h2 => by have := HLG.out W p _ s1 n1 c1 m1 h1 (crashD_ok4 HO2.out.1 keep) h2; rwa [p3] at this)
              obtain ⟨⟨GG, GE⟩, hGG⟩ : ∃ z, loadX (crashD (wrX DW M n b).2.1 keep) = z := ⟨_, rfl⟩
              obtain ⟨hGo, hGl⟩ := load_M hGG
              rw [hGG] at p4 p5
              rw [hGG] at HL2
              simp only at p4 p5 HL2
              clear p2 p3 hGG
              generalize (wrX DW M n b).1 = FE at *
              generalize (wrX DW M n b).2.1 = D2 at *
              generalize crashD D2 keep = D9 at *
              have HSM : Hid (∀ W a c a' c', RV W GG a c → RV W M a' c' → Calls Tryd.prog 19 #[.agg (rval GG a c), .agg (rval M a' c')] W fun e w' => e = .returned (.bool (decide (GG.gen = M.gen ∧ GG.ps = M.ps))) ∧ Fr0 W w') := Lib.hid (fun W a c a' c' h h' => rmsame_calls GG M a a' c c' W hGo HMO.out h h' (by omega))
              have HSP : Hid (∀ W a c a' c', RV W GG a c → RV W P1 a' c' → Calls Tryd.prog 19 #[.agg (rval GG a c), .agg (rval P1 a' c')] W fun e w' => e = .returned (.bool (decide (GG.gen = P1.gen ∧ GG.ps = P1.ps))) ∧ Fr0 W w') := Lib.hid (fun W a c a' c' h h' => rmsame_calls GG P1 a a' c c' W hGo HO1.out.2.1 h h' (by omega))
              obtain ⟨s1', hs1⟩ : ∃ z, decide (GG.gen = M.gen ∧ GG.ps = M.ps) = z := ⟨_, rfl⟩
              obtain ⟨s2', hs2⟩ : ∃ z, decide (GG.gen = P1.gen ∧ GG.ps = P1.ps) = z := ⟨_, rfl⟩
              have q1 : GG = M → s1' = true := fun e => by rw [← hs1, e]; simp
              have q2 : GG = P1 → s2' = true := fun e => by rw [← hs2, e]; simp
              rw [hs1] at HSM
              rw [hs2] at HSP
              have h5 : (FE = AFT ∧ FE ≠ 0 ∧ s1' = true) ∨ (FE = AFT ∧ FE = 0 ∧ s1' = true ∧ s2' = true) ∨ (FE = AFT ∧ FE = 0 ∧ s1' = false ∧ s2' = true) ∨ (FE ≠ AFT ∧ FE = 3 ∧ s1' = true) ∨ (FE ≠ AFT ∧ FE = 3 ∧ AFT = 0 ∧ s1' = false ∧ s2' = true) := by
                clear HSM HSP HL2 HC2 HW2 HA2
                by_cases e1 : FE = AFT
                · by_cases e0 : FE = 0
                  · have e2 := q2 (p5 e0)
                    cases hs : s1' with
                    | true => exact .inr (.inl ⟨e1, e0, rfl, e2⟩)
                    | false => exact .inr (.inr (.inl ⟨e1, e0, rfl, e2⟩))
                  · rcases p4 with e | ⟨e, -⟩
                    · exact .inl ⟨e1, e0, q1 e⟩
                    · exact absurd (e1.trans e) e0
                · have e3 : FE = 3 := p1.resolve_left e1
                  rcases p4 with e | ⟨e, h⟩
                  · exact .inr (.inr (.inr (.inl ⟨e1, e3, q1 e⟩)))
                  · cases hs : s1' with
                    | true => exact .inr (.inr (.inr (.inl ⟨e1, e3, rfl⟩)))
                    | false => exact .inr (.inr (.inr (.inr ⟨e1, e3, e, rfl, q2 h⟩)))
              clear p1 p4 p5 q1 q2 hs1 hs2 hDW hGo hGl hf hp hq hrv hpq hlo hlo2 HPG HAM0 HAR HCR HWR HWO HLG HDC HRC HNE HMC HX10 HV10 HM10 HMV10 HL10 HG10 HF10 HD10 HP10 HMB HDW HO2
              rcases h5 with ⟨rfl, h0, rfl⟩ | ⟨rfl, rfl, rfl, rfl⟩ | ⟨rfl, rfl, rfl, rfl⟩ | ⟨h0, rfl, rfl⟩ | ⟨-, rfl, rfl, rfl, rfl⟩
              · have hb1 : (FE != 0) = true := by simpa using h0
                go_wp2_with (first | (go_at_call 30; (with_reducible refine (HA2.out _ _ _ _ _ _ HZ11.out).mono ?_); rintro e w12 ⟨rfl, ha⟩; have HD12 : Hid (PS w12 w.heap.size mA d M) := Lib.hid (PS.past HD11.out HOK.out HS11.out (ha.fr.weaken (fun _ _ h => .inl h)) HN2.out.1 (by have := HN2.out; omega) (by have := HN2.out; omega) (by have := HN2.out; omega) (by have := HN2.out; omega)); have HP12 : Hid (PS w12 yA pA D1 P1) := Lib.hid (PS.past HP11.out HO1.out.1 HS11.out (ha.fr.weaken (fun _ _ h => .inl h)) HN2.out.1 (by have := HN2.out; omega) (by have := HN2.out; omega) (by have := HN2.out; omega) (by have := HN2.out; omega)); have HS12 : Hid (PS w12 zA qA DW M) := Lib.hid (PS.of ha.at_ (ha.fr.keep HQ11.out HN2.out.1) (RV.past HQV11.out ha.fr HZ11.out.blk)); have HL12 := Lib.hid (ha.fr.keep HL11.out (by have := HN2.out; omega)); have HG12 := Lib.hid (ha.fr.keep HG11.out (by have := HN2.out; omega)); have HF12 : Hid (Fr0 w w12) := Lib.hid (HF11.out.then ha.fr (fun i hi e => by have := HN2.out; omega)); have HR12 : Hid (RdB w12 ka keep) := Lib.hid (RdB_keep HRD.out HF12.out); have l120 := lay_cell HL12.out; clear ha) | ((with_reducible show wpList _ _ _ ({ dst := _, op := Op.load 27 _, type := _, pos := _, after := _, guard := _ } :: _) _ _); refine wpList_load_mid_g (by rfl) 27 _ rfl (w.heap.size + 1) 1 rfl (b.map B) _ (lay_range HL12.out) Tryd.underlying27 rfl HIL.out ?_) | (go_at_call 25; (with_reducible refine (HW2.out _ _ _ HN2.out.1 (HSH.out.keep0 HF12.out) HS12.out).mono ?_); rintro e w13 ⟨rfl, hps, hfr⟩; obtain ⟨⟨v1, v2, v3, v4, hsd⟩, -⟩ := hps; have HS13 := Lib.hid hsd; have HD13 : Hid (PS w13 w.heap.size mA d M) := Lib.hid (PS.past HD12.out HOK.out HS12.out hfr HN2.out.1 (by have := HN2.out; omega) (by have := HN2.out; omega) (by have := HN2.out; omega) (by have := HN2.out; omega)); have HP13 : Hid (PS w13 yA pA D1 P1) := Lib.hid (PS.past HP12.out HO1.out.1 HS12.out hfr HN2.out.1 (by have := HN2.out; omega) (by have := HN2.out; omega) (by have := HN2.out; omega) (by have := HN2.out; omega)); have HG13 := Lib.hid (hfr.keep HG12.out (by have := HN2.out; omega)); have HF13 : Hid (Fr0 w w13) := Lib.hid (HF12.out.then hfr (fun i hi e => by have := HN2.out; omega)); have HR13 : Hid (RdB w13 ka keep) := Lib.hid (RdB_keep HRD.out HF13.out); have g131 : w13.cell? ⟨(w.heap.size + 1 + 1), 1, none⟩ = some (.slice ka keep.length kc) := Bk.cell HG13.out 1; clear hsd hfr) | (go_at_call 31; (with_reducible refine (HC2.out _ _ _ _ _ _ HS13.out HR13.out (by have := HN2.out; omega)).mono ?_); rintro e w14 ⟨rfl, ⟨⟨x1, x2, x3, x4, hsd⟩, hfr⟩⟩; have HS14 := Lib.hid hsd; have HD14 : Hid (PS w14 w.heap.size mA d M) := Lib.hid (PS.past1 HD13.out HOK.out HS13.out hfr (by have := HN2.out; omega) (by have := HN2.out; omega)); have HP14 : Hid (PS w14 yA pA D1 P1) := Lib.hid (PS.past1 HP13.out HO1.out.1 HS13.out hfr (by have := HN2.out; omega) (by have := HN2.out; omega)); have HF14 : Hid (Fr0 w w14) := Lib.hid (HF13.out.then hfr (fun i hi e => by have := HN2.out; omega)); clear hsd hfr) | (go_at_call 29; (with_reducible refine (HL2.out _ _ _ _ _ _ HF14.out HS14.out).mono ?_); rintro e w15 ⟨a9, k9, rfl, hv9, hfr⟩; have HZ15 := Lib.hid (Bk.new w15 (.cells RZ 24)); have hfx : Fr0 w15 ((w15.alloc (.cells RZ 24)).setRow w15.heap.size (rval GG a9 k9)) := ArrKit.Fr.row (Fr.alloc (Fr.refl _ _) _) _ _ (.inl (Nat.le_refl _)); have hfy := hfr.then0 hfx; obtain ⟨-, bM, eM, hM1, hM2⟩ := HD14.out.keep0 hfy; obtain ⟨-, bP, eP, hP1, hP2⟩ := HP14.out.keep0 hfy; have HMc := Lib.hid hM1; have HMVc := Lib.hid hM2; have HPc := Lib.hid hP1; have HPVc := Lib.hid hP2; have HGc : Hid (Bk ((w15.alloc (.cells RZ 24)).setRow w15.heap.size (rval GG a9 k9)) w15.heap.size (rval GG a9 k9) 24) := Lib.hid (ArrKit.Bk.row HZ15.out _); have HGVc : Hid (RV ((w15.alloc (.cells RZ 24)).setRow w15.heap.size (rval GG a9 k9)) GG a9 k9) := Lib.hid (hv9.keep hfx); have HFc : Hid (Fr0 w ((w15.alloc (.cells RZ 24)).setRow w15.heap.size (rval GG a9 k9))) := Lib.hid (HF14.out.then0 hfy); clear hv9 hfr hfx hfy hM1 hM2 hP1 hP2) | ((with_reducible show wpList _ _ _ ({ dst := _, op := Op.store 24 _ _, type := _, pos := _, after := _, guard := _ } :: _) _ _); refine wpList_store_row rfl 24 _ _ rfl w15.heap.size (rval GG a9 k9) rfl rfl 24 RZ HZ15.out (HIR.out _ _ _) rfl (HRO.out _ _ _) ?_) | ((with_reducible show wpList _ _ _ ({ dst := _, op := Op.load 24 _, type := _, pos := _, after := _, guard := _ } :: _) _ _); refine wpList_load_row_g (by rfl) 24 _ rfl w15.heap.size rfl 24 (rval GG a9 k9) (0, 0) _ HGc.out Tryd.underlying24 rfl (HIR.out _ _ _) ?_) | ((with_reducible show wpList _ _ _ ({ dst := _, op := Op.load 24 _, type := _, pos := _, after := _, guard := _ } :: _) _ _); refine wpList_load_row_g (by rfl) 24 _ rfl mA rfl 24 (rval M bM eM) (0, 0) _ HMc.out Tryd.underlying24 rfl (HIR.out _ _ _) ?_) | ((with_reducible show wpList _ _ _ ({ dst := _, op := Op.load 24 _, type := _, pos := _, after := _, guard := _ } :: _) _ _); refine wpList_load_row_g (by rfl) 24 _ rfl pA rfl 24 (rval P1 bP eP) (0, 0) _ HPc.out Tryd.underlying24 rfl (HIR.out _ _ _) ?_) | (go_at_call 19; (with_reducible refine (HSM.out _ _ _ _ _ HGVc.out HMVc.out).mono ?_); rintro e wS ⟨rfl, hfS⟩; have HGc' := Lib.hid (Fr.keep hfS HGc.out (fun h => h)); clear HGc; have HGc := HGc'; clear HGc'; have HMc' := Lib.hid (Fr.keep hfS HMc.out (fun h => h)); clear HMc; have HMc := HMc'; clear HMc'; have HPc' := Lib.hid (Fr.keep hfS HPc.out (fun h => h)); clear HPc; have HPc := HPc'; clear HPc'; have HGVc' := Lib.hid (RV.keep HGVc.out hfS); clear HGVc; have HGVc := HGVc'; clear HGVc'; have HMVc' := Lib.hid (RV.keep HMVc.out hfS); clear HMVc; have HMVc := HMVc'; clear HMVc'; have HPVc' := Lib.hid (RV.keep HPVc.out hfS); clear HPVc; have HPVc := HPVc'; clear HPVc'; have HFc' := Lib.hid (HFc.out.then0 hfS); clear HFc; have HFc := HFc'; clear HFc'; clear hfS) | (go_at_call 19; (with_reducible refine (HSP.out _ _ _ _ _ HGVc.out HPVc.out).mono ?_); rintro e wS ⟨rfl, hfS⟩; have HGc' := Lib.hid (Fr.keep hfS HGc.out (fun h => h)); clear HGc; have HGc := HGc'; clear HGc'; have HMc' := Lib.hid (Fr.keep hfS HMc.out (fun h => h)); clear HMc; have HMc := HMc'; clear HMc'; have HPc' := Lib.hid (Fr.keep hfS HPc.out (fun h => h)); clear HPc; have HPc := HPc'; clear HPc'; have HGVc' := Lib.hid (RV.keep HGVc.out hfS); clear HGVc; have HGVc := HGVc'; clear HGVc'; have HMVc' := Lib.hid (RV.keep HMVc.out hfS); clear HMVc; have HMVc := HMVc'; clear HMVc'; have HPVc' := Lib.hid (RV.keep HPVc.out hfS); clear HPVc; have HPVc := HPVc'; clear HPVc'; have HFc' := Lib.hid (HFc.out.then0 hfS); clear HFc; have HFc := HFc'; clear HFc'; clear hfS))
                go_ret
                exact ⟨rfl, HFc.out⟩
              · go_wp2_with (first | (go_at_call 30; (with_reducible refine (HA2.out _ _ _ _ _ _ HZ11.out).mono ?_); rintro e w12 ⟨rfl, ha⟩; have HD12 : Hid (PS w12 w.heap.size mA d M) := Lib.hid (PS.past HD11.out HOK.out HS11.out (ha.fr.weaken (fun _ _ h => .inl h)) HN2.out.1 (by have := HN2.out; omega) (by have := HN2.out; omega) (by have := HN2.out; omega) (by have := HN2.out; omega)); have HP12 : Hid (PS w12 yA pA D1 P1) := Lib.hid (PS.past HP11.out HO1.out.1 HS11.out (ha.fr.weaken (fun _ _ h => .inl h)) HN2.out.1 (by have := HN2.out; omega) (by have := HN2.out; omega) (by have := HN2.out; omega) (by have := HN2.out; omega)); have HS12 : Hid (PS w12 zA qA DW M) := Lib.hid (PS.of ha.at_ (ha.fr.keep HQ11.out HN2.out.1) (RV.past HQV11.out ha.fr HZ11.out.blk)); have HL12 := Lib.hid (ha.fr.keep HL11.out (by have := HN2.out; omega)); have HG12 := Lib.hid (ha.fr.keep HG11.out (by have := HN2.out; omega)); have HF12 : Hid (Fr0 w w12) := Lib.hid (HF11.out.then ha.fr (fun i hi e => by have := HN2.out; omega)); have HR12 : Hid (RdB w12 ka keep) := Lib.hid (RdB_keep HRD.out HF12.out); have l120 := lay_cell HL12.out; clear ha) | ((with_reducible show wpList _ _ _ ({ dst := _, op := Op.load 27 _, type := _, pos := _, after := _, guard := _ } :: _) _ _); refine wpList_load_mid_g (by rfl) 27 _ rfl (w.heap.size + 1) 1 rfl (b.map B) _ (lay_range HL12.out) Tryd.underlying27 rfl HIL.out ?_) | (go_at_call 25; (with_reducible refine (HW2.out _ _ _ HN2.out.1 (HSH.out.keep0 HF12.out) HS12.out).mono ?_); rintro e w13 ⟨rfl, hps, hfr⟩; obtain ⟨⟨v1, v2, v3, v4, hsd⟩, -⟩ := hps; have HS13 := Lib.hid hsd; have HD13 : Hid (PS w13 w.heap.size mA d M) := Lib.hid (PS.past HD12.out HOK.out HS12.out hfr HN2.out.1 (by have := HN2.out; omega) (by have := HN2.out; omega) (by have := HN2.out; omega) (by have := HN2.out; omega)); have HP13 : Hid (PS w13 yA pA D1 P1) := Lib.hid (PS.past HP12.out HO1.out.1 HS12.out hfr HN2.out.1 (by have := HN2.out; omega) (by have := HN2.out; omega) (by have := HN2.out; omega) (by have := HN2.out; omega)); have HG13 := Lib.hid (hfr.keep HG12.out (by have := HN2.out; omega)); have HF13 : Hid (Fr0 w w13) := Lib.hid (HF12.out.then hfr (fun i hi e => by have := HN2.out; omega)); have HR13 : Hid (RdB w13 ka keep) := Lib.hid (RdB_keep HRD.out HF13.out); have g131 : w13.cell? ⟨(w.heap.size + 1 + 1), 1, none⟩ = some (.slice ka keep.length kc) := Bk.cell HG13.out 1; clear hsd hfr) | (go_at_call 31; (with_reducible refine (HC2.out _ _ _ _ _ _ HS13.out HR13.out (by have := HN2.out; omega)).mono ?_); rintro e w14 ⟨rfl, ⟨⟨x1, x2, x3, x4, hsd⟩, hfr⟩⟩; have HS14 := Lib.hid hsd; have HD14 : Hid (PS w14 w.heap.size mA d M) := Lib.hid (PS.past1 HD13.out HOK.out HS13.out hfr (by have := HN2.out; omega) (by have := HN2.out; omega)); have HP14 : Hid (PS w14 yA pA D1 P1) := Lib.hid (PS.past1 HP13.out HO1.out.1 HS13.out hfr (by have := HN2.out; omega) (by have := HN2.out; omega)); have HF14 : Hid (Fr0 w w14) := Lib.hid (HF13.out.then hfr (fun i hi e => by have := HN2.out; omega)); clear hsd hfr) | (go_at_call 29; (with_reducible refine (HL2.out _ _ _ _ _ _ HF14.out HS14.out).mono ?_); rintro e w15 ⟨a9, k9, rfl, hv9, hfr⟩; have HZ15 := Lib.hid (Bk.new w15 (.cells RZ 24)); have hfx : Fr0 w15 ((w15.alloc (.cells RZ 24)).setRow w15.heap.size (rval GG a9 k9)) := ArrKit.Fr.row (Fr.alloc (Fr.refl _ _) _) _ _ (.inl (Nat.le_refl _)); have hfy := hfr.then0 hfx; obtain ⟨-, bM, eM, hM1, hM2⟩ := HD14.out.keep0 hfy; obtain ⟨-, bP, eP, hP1, hP2⟩ := HP14.out.keep0 hfy; have HMc := Lib.hid hM1; have HMVc := Lib.hid hM2; have HPc := Lib.hid hP1; have HPVc := Lib.hid hP2; have HGc : Hid (Bk ((w15.alloc (.cells RZ 24)).setRow w15.heap.size (rval GG a9 k9)) w15.heap.size (rval GG a9 k9) 24) := Lib.hid (ArrKit.Bk.row HZ15.out _); have HGVc : Hid (RV ((w15.alloc (.cells RZ 24)).setRow w15.heap.size (rval GG a9 k9)) GG a9 k9) := Lib.hid (hv9.keep hfx); have HFc : Hid (Fr0 w ((w15.alloc (.cells RZ 24)).setRow w15.heap.size (rval GG a9 k9))) := Lib.hid (HF14.out.then0 hfy); clear hv9 hfr hfx hfy hM1 hM2 hP1 hP2) | ((with_reducible show wpList _ _ _ ({ dst := _, op := Op.store 24 _ _, type := _, pos := _, after := _, guard := _ } :: _) _ _); refine wpList_store_row rfl 24 _ _ rfl w15.heap.size (rval GG a9 k9) rfl rfl 24 RZ HZ15.out (HIR.out _ _ _) rfl (HRO.out _ _ _) ?_) | ((with_reducible show wpList _ _ _ ({ dst := _, op := Op.load 24 _, type := _, pos := _, after := _, guard := _ } :: _) _ _); refine wpList_load_row_g (by rfl) 24 _ rfl w15.heap.size rfl 24 (rval GG a9 k9) (0, 0) _ HGc.out Tryd.underlying24 rfl (HIR.out _ _ _) ?_) | ((with_reducible show wpList _ _ _ ({ dst := _, op := Op.load 24 _, type := _, pos := _, after := _, guard := _ } :: _) _ _); refine wpList_load_row_g (by rfl) 24 _ rfl mA rfl 24 (rval M bM eM) (0, 0) _ HMc.out Tryd.underlying24 rfl (HIR.out _ _ _) ?_) | ((with_reducible show wpList _ _ _ ({ dst := _, op := Op.load 24 _, type := _, pos := _, after := _, guard := _ } :: _) _ _); refine wpList_load_row_g (by rfl) 24 _ rfl pA rfl 24 (rval P1 bP eP) (0, 0) _ HPc.out Tryd.underlying24 rfl (HIR.out _ _ _) ?_) | (go_at_call 19; (with_reducible refine (HSM.out _ _ _ _ _ HGVc.out HMVc.out).mono ?_); rintro e wS ⟨rfl, hfS⟩; have HGc' := Lib.hid (Fr.keep hfS HGc.out (fun h => h)); clear HGc; have HGc := HGc'; clear HGc'; have HMc' := Lib.hid (Fr.keep hfS HMc.out (fun h => h)); clear HMc; have HMc := HMc'; clear HMc'; have HPc' := Lib.hid (Fr.keep hfS HPc.out (fun h => h)); clear HPc; have HPc := HPc'; clear HPc'; have HGVc' := Lib.hid (RV.keep HGVc.out hfS); clear HGVc; have HGVc := HGVc'; clear HGVc'; have HMVc' := Lib.hid (RV.keep HMVc.out hfS); clear HMVc; have HMVc := HMVc'; clear HMVc'; have HPVc' := Lib.hid (RV.keep HPVc.out hfS); clear HPVc; have HPVc := HPVc'; clear HPVc'; have HFc' := Lib.hid (HFc.out.then0 hfS); clear HFc; have HFc := HFc'; clear HFc'; clear hfS) | (go_at_call 19; (with_reducible refine (HSP.out _ _ _ _ _ HGVc.out HPVc.out).mono ?_); rintro e wS ⟨rfl, hfS⟩; have HGc' := Lib.hid (Fr.keep hfS HGc.out (fun h => h)); clear HGc; have HGc := HGc'; clear HGc'; have HMc' := Lib.hid (Fr.keep hfS HMc.out (fun h => h)); clear HMc; have HMc := HMc'; clear HMc'; have HPc' := Lib.hid (Fr.keep hfS HPc.out (fun h => h)); clear HPc; have HPc := HPc'; clear HPc'; have HGVc' := Lib.hid (RV.keep HGVc.out hfS); clear HGVc; have HGVc := HGVc'; clear HGVc'; have HMVc' := Lib.hid (RV.keep HMVc.out hfS); clear HMVc; have HMVc := HMVc'; clear HMVc'; have HPVc' := Lib.hid (RV.keep HPVc.out hfS); clear HPVc; have HPVc := HPVc'; clear HPVc'; have HFc' := Lib.hid (HFc.out.then0 hfS); clear HFc; have HFc := HFc'; clear HFc'; clear hfS))
                go_ret
                exact ⟨rfl, HFc.out⟩
              · go_wp2_with (first | (go_at_call 30; (with_reducible refine (HA2.out _ _ _ _ _ _ HZ11.out).mono ?_); rintro e w12 ⟨rfl, ha⟩; have HD12 : Hid (PS w12 w.heap.size mA d M) := Lib.hid (PS.past HD11.out HOK.out HS11.out (ha.fr.weaken (fun _ _ h => .inl h)) HN2.out.1 (by have := HN2.out; omega) (by have := HN2.out; omega) (by have := HN2.out; omega) (by have := HN2.out; omega)); have HP12 : Hid (PS w12 yA pA D1 P1) := Lib.hid (PS.past HP11.out HO1.out.1 HS11.out (ha.fr.weaken (fun _ _ h => .inl h)) HN2.out.1 (by have := HN2.out; omega) (by have := HN2.out; omega) (by have := HN2.out; omega) (by have := HN2.out; omega)); have HS12 : Hid (PS w12 zA qA DW M) := Lib.hid (PS.of ha.at_ (ha.fr.keep HQ11.out HN2.out.1) (RV.past HQV11.out ha.fr HZ11.out.blk)); have HL12 := Lib.hid (ha.fr.keep HL11.out (by have := HN2.out; omega)); have HG12 := Lib.hid (ha.fr.keep HG11.out (by have := HN2.out; omega)); have HF12 : Hid (Fr0 w w12) := Lib.hid (HF11.out.then ha.fr (fun i hi e => by have := HN2.out; omega)); have HR12 : Hid (RdB w12 ka keep) := Lib.hid (RdB_keep HRD.out HF12.out); have l120 := lay_cell HL12.out; clear ha) | ((with_reducible show wpList _ _ _ ({ dst := _, op := Op.load 27 _, type := _, pos := _, after := _, guard := _ } :: _) _ _); refine wpList_load_mid_g (by rfl) 27 _ rfl (w.heap.size + 1) 1 rfl (b.map B) _ (lay_range HL12.out) Tryd.underlying27 rfl HIL.out ?_) | (go_at_call 25; (with_reducible refine (HW2.out _ _ _ HN2.out.1 (HSH.out.keep0 HF12.out) HS12.out).mono ?_); rintro e w13 ⟨rfl, hps, hfr⟩; obtain ⟨⟨v1, v2, v3, v4, hsd⟩, -⟩ := hps; have HS13 := Lib.hid hsd; have HD13 : Hid (PS w13 w.heap.size mA d M) := Lib.hid (PS.past HD12.out HOK.out HS12.out hfr HN2.out.1 (by have := HN2.out; omega) (by have := HN2.out; omega) (by have := HN2.out; omega) (by have := HN2.out; omega)); have HP13 : Hid (PS w13 yA pA D1 P1) := Lib.hid (PS.past HP12.out HO1.out.1 HS12.out hfr HN2.out.1 (by have := HN2.out; omega) (by have := HN2.out; omega) (by have := HN2.out; omega) (by have := HN2.out; omega)); have HG13 := Lib.hid (hfr.keep HG12.out (by have := HN2.out; omega)); have HF13 : Hid (Fr0 w w13) := Lib.hid (HF12.out.then hfr (fun i hi e => by have := HN2.out; omega)); have HR13 : Hid (RdB w13 ka keep) := Lib.hid (RdB_keep HRD.out HF13.out); have g131 : w13.cell? ⟨(w.heap.size + 1 + 1), 1, none⟩ = some (.slice ka keep.length kc) := Bk.cell HG13.out 1; clear hsd hfr) | (go_at_call 31; (with_reducible refine (HC2.out _ _ _ _ _ _ HS13.out HR13.out (by have := HN2.out; omega)).mono ?_); rintro e w14 ⟨rfl, ⟨⟨x1, x2, x3, x4, hsd⟩, hfr⟩⟩; have HS14 := Lib.hid hsd; have HD14 : Hid (PS w14 w.heap.size mA d M) := Lib.hid (PS.past1 HD13.out HOK.out HS13.out hfr (by have := HN2.out; omega) (by have := HN2.out; omega)); have HP14 : Hid (PS w14 yA pA D1 P1) := Lib.hid (PS.past1 HP13.out HO1.out.1 HS13.out hfr (by have := HN2.out; omega) (by have := HN2.out; omega)); have HF14 : Hid (Fr0 w w14) := Lib.hid (HF13.out.then hfr (fun i hi e => by have := HN2.out; omega)); clear hsd hfr) | (go_at_call 29; (with_reducible refine (HL2.out _ _ _ _ _ _ HF14.out HS14.out).mono ?_); rintro e w15 ⟨a9, k9, rfl, hv9, hfr⟩; have HZ15 := Lib.hid (Bk.new w15 (.cells RZ 24)); have hfx : Fr0 w15 ((w15.alloc (.cells RZ 24)).setRow w15.heap.size (rval GG a9 k9)) := ArrKit.Fr.row (Fr.alloc (Fr.refl _ _) _) _ _ (.inl (Nat.le_refl _)); have hfy := hfr.then0 hfx; obtain ⟨-, bM, eM, hM1, hM2⟩ := HD14.out.keep0 hfy; obtain ⟨-, bP, eP, hP1, hP2⟩ := HP14.out.keep0 hfy; have HMc := Lib.hid hM1; have HMVc := Lib.hid hM2; have HPc := Lib.hid hP1; have HPVc := Lib.hid hP2; have HGc : Hid (Bk ((w15.alloc (.cells RZ 24)).setRow w15.heap.size (rval GG a9 k9)) w15.heap.size (rval GG a9 k9) 24) := Lib.hid (ArrKit.Bk.row HZ15.out _); have HGVc : Hid (RV ((w15.alloc (.cells RZ 24)).setRow w15.heap.size (rval GG a9 k9)) GG a9 k9) := Lib.hid (hv9.keep hfx); have HFc : Hid (Fr0 w ((w15.alloc (.cells RZ 24)).setRow w15.heap.size (rval GG a9 k9))) := Lib.hid (HF14.out.then0 hfy); clear hv9 hfr hfx hfy hM1 hM2 hP1 hP2) | ((with_reducible show wpList _ _ _ ({ dst := _, op := Op.store 24 _ _, type := _, pos := _, after := _, guard := _ } :: _) _ _); refine wpList_store_row rfl 24 _ _ rfl w15.heap.size (rval GG a9 k9) rfl rfl 24 RZ HZ15.out (HIR.out _ _ _) rfl (HRO.out _ _ _) ?_) | ((with_reducible show wpList _ _ _ ({ dst := _, op := Op.load 24 _, type := _, pos := _, after := _, guard := _ } :: _) _ _); refine wpList_load_row_g (by rfl) 24 _ rfl w15.heap.size rfl 24 (rval GG a9 k9) (0, 0) _ HGc.out Tryd.underlying24 rfl (HIR.out _ _ _) ?_) | ((with_reducible show wpList _ _ _ ({ dst := _, op := Op.load 24 _, type := _, pos := _, after := _, guard := _ } :: _) _ _); refine wpList_load_row_g (by rfl) 24 _ rfl mA rfl 24 (rval M bM eM) (0, 0) _ HMc.out Tryd.underlying24 rfl (HIR.out _ _ _) ?_) | ((with_reducible show wpList _ _ _ ({ dst := _, op := Op.load 24 _, type := _, pos := _, after := _, guard := _ } :: _) _ _); refine wpList_load_row_g (by rfl) 24 _ rfl pA rfl 24 (rval P1 bP eP) (0, 0) _ HPc.out Tryd.underlying24 rfl (HIR.out _ _ _) ?_) | (go_at_call 19; (with_reducible refine (HSM.out _ _ _ _ _ HGVc.out HMVc.out).mono ?_); rintro e wS ⟨rfl, hfS⟩; have HGc' := Lib.hid (Fr.keep hfS HGc.out (fun h => h)); clear HGc; have HGc := HGc'; clear HGc'; have HMc' := Lib.hid (Fr.keep hfS HMc.out (fun h => h)); clear HMc; have HMc := HMc'; clear HMc'; have HPc' := Lib.hid (Fr.keep hfS HPc.out (fun h => h)); clear HPc; have HPc := HPc'; clear HPc'; have HGVc' := Lib.hid (RV.keep HGVc.out hfS); clear HGVc; have HGVc := HGVc'; clear HGVc'; have HMVc' := Lib.hid (RV.keep HMVc.out hfS); clear HMVc; have HMVc := HMVc'; clear HMVc'; have HPVc' := Lib.hid (RV.keep HPVc.out hfS); clear HPVc; have HPVc := HPVc'; clear HPVc'; have HFc' := Lib.hid (HFc.out.then0 hfS); clear HFc; have HFc := HFc'; clear HFc'; clear hfS) | (go_at_call 19; (with_reducible refine (HSP.out _ _ _ _ _ HGVc.out HPVc.out).mono ?_); rintro e wS ⟨rfl, hfS⟩; have HGc' := Lib.hid (Fr.keep hfS HGc.out (fun h => h)); clear HGc; have HGc := HGc'; clear HGc'; have HMc' := Lib.hid (Fr.keep hfS HMc.out (fun h => h)); clear HMc; have HMc := HMc'; clear HMc'; have HPc' := Lib.hid (Fr.keep hfS HPc.out (fun h => h)); clear HPc; have HPc := HPc'; clear HPc'; have HGVc' := Lib.hid (RV.keep HGVc.out hfS); clear HGVc; have HGVc := HGVc'; clear HGVc'; have HMVc' := Lib.hid (RV.keep HMVc.out hfS); clear HMVc; have HMVc := HMVc'; clear HMVc'; have HPVc' := Lib.hid (RV.keep HPVc.out hfS); clear HPVc; have HPVc := HPVc'; clear HPVc'; have HFc' := Lib.hid (HFc.out.then0 hfS); clear HFc; have HFc := HFc'; clear HFc'; clear hfS))
                go_ret
                exact ⟨rfl, HFc.out⟩
              · have hb1 : ((3 : Int) != AFT) = true := by simpa using h0
                go_wp2_with (first | (go_at_call 30; (with_reducible refine (HA2.out _ _ _ _ _ _ HZ11.out).mono ?_); rintro e w12 ⟨rfl, ha⟩; have HD12 : Hid (PS w12 w.heap.size mA d M) := Lib.hid (PS.past HD11.out HOK.out HS11.out (ha.fr.weaken (fun _ _ h => .inl h)) HN2.out.1 (by have := HN2.out; omega) (by have := HN2.out; omega) (by have := HN2.out; omega) (by have := HN2.out; omega)); have HP12 : Hid (PS w12 yA pA D1 P1) := Lib.hid (PS.past HP11.out HO1.out.1 HS11.out (ha.fr.weaken (fun _ _ h => .inl h)) HN2.out.1 (by have := HN2.out; omega) (by have := HN2.out; omega) (by have := HN2.out; omega) (by have := HN2.out; omega)); have HS12 : Hid (PS w12 zA qA DW M) := Lib.hid (PS.of ha.at_ (ha.fr.keep HQ11.out HN2.out.1) (RV.past HQV11.out ha.fr HZ11.out.blk)); have HL12 := Lib.hid (ha.fr.keep HL11.out (by have := HN2.out; omega)); have HG12 := Lib.hid (ha.fr.keep HG11.out (by have := HN2.out; omega)); have HF12 : Hid (Fr0 w w12) := Lib.hid (HF11.out.then ha.fr (fun i hi e => by have := HN2.out; omega)); have HR12 : Hid (RdB w12 ka keep) := Lib.hid (RdB_keep HRD.out HF12.out); have l120 := lay_cell HL12.out; clear ha) | ((with_reducible show wpList _ _ _ ({ dst := _, op := Op.load 27 _, type := _, pos := _, after := _, guard := _ } :: _) _ _); refine wpList_load_mid_g (by rfl) 27 _ rfl (w.heap.size + 1) 1 rfl (b.map B) _ (lay_range HL12.out) Tryd.underlying27 rfl HIL.out ?_) | (go_at_call 25; (with_reducible refine (HW2.out _ _ _ HN2.out.1 (HSH.out.keep0 HF12.out) HS12.out).mono ?_); rintro e w13 ⟨rfl, hps, hfr⟩; obtain ⟨⟨v1, v2, v3, v4, hsd⟩, -⟩ := hps; have HS13 := Lib.hid hsd; have HD13 : Hid (PS w13 w.heap.size mA d M) := Lib.hid (PS.past HD12.out HOK.out HS12.out hfr HN2.out.1 (by have := HN2.out; omega) (by have := HN2.out; omega) (by have := HN2.out; omega) (by have := HN2.out; omega)); have HP13 : Hid (PS w13 yA pA D1 P1) := Lib.hid (PS.past HP12.out HO1.out.1 HS12.out hfr HN2.out.1 (by have := HN2.out; omega) (by have := HN2.out; omega) (by have := HN2.out; omega) (by have := HN2.out; omega)); have HG13 := Lib.hid (hfr.keep HG12.out (by have := HN2.out; omega)); have HF13 : Hid (Fr0 w w13) := Lib.hid (HF12.out.then hfr (fun i hi e => by have := HN2.out; omega)); have HR13 : Hid (RdB w13 ka keep) := Lib.hid (RdB_keep HRD.out HF13.out); have g131 : w13.cell? ⟨(w.heap.size + 1 + 1), 1, none⟩ = some (.slice ka keep.length kc) := Bk.cell HG13.out 1; clear hsd hfr) | (go_at_call 31; (with_reducible refine (HC2.out _ _ _ _ _ _ HS13.out HR13.out (by have := HN2.out; omega)).mono ?_); rintro e w14 ⟨rfl, ⟨⟨x1, x2, x3, x4, hsd⟩, hfr⟩⟩; have HS14 := Lib.hid hsd; have HD14 : Hid (PS w14 w.heap.size mA d M) := Lib.hid (PS.past1 HD13.out HOK.out HS13.out hfr (by have := HN2.out; omega) (by have := HN2.out; omega)); have HP14 : Hid (PS w14 yA pA D1 P1) := Lib.hid (PS.past1 HP13.out HO1.out.1 HS13.out hfr (by have := HN2.out; omega) (by have := HN2.out; omega)); have HF14 : Hid (Fr0 w w14) := Lib.hid (HF13.out.then hfr (fun i hi e => by have := HN2.out; omega)); clear hsd hfr) | (go_at_call 29; (with_reducible refine (HL2.out _ _ _ _ _ _ HF14.out HS14.out).mono ?_); rintro e w15 ⟨a9, k9, rfl, hv9, hfr⟩; have HZ15 := Lib.hid (Bk.new w15 (.cells RZ 24)); have hfx : Fr0 w15 ((w15.alloc (.cells RZ 24)).setRow w15.heap.size (rval GG a9 k9)) := ArrKit.Fr.row (Fr.alloc (Fr.refl _ _) _) _ _ (.inl (Nat.le_refl _)); have hfy := hfr.then0 hfx; obtain ⟨-, bM, eM, hM1, hM2⟩ := HD14.out.keep0 hfy; obtain ⟨-, bP, eP, hP1, hP2⟩ := HP14.out.keep0 hfy; have HMc := Lib.hid hM1; have HMVc := Lib.hid hM2; have HPc := Lib.hid hP1; have HPVc := Lib.hid hP2; have HGc : Hid (Bk ((w15.alloc (.cells RZ 24)).setRow w15.heap.size (rval GG a9 k9)) w15.heap.size (rval GG a9 k9) 24) := Lib.hid (ArrKit.Bk.row HZ15.out _); have HGVc : Hid (RV ((w15.alloc (.cells RZ 24)).setRow w15.heap.size (rval GG a9 k9)) GG a9 k9) := Lib.hid (hv9.keep hfx); have HFc : Hid (Fr0 w ((w15.alloc (.cells RZ 24)).setRow w15.heap.size (rval GG a9 k9))) := Lib.hid (HF14.out.then0 hfy); clear hv9 hfr hfx hfy hM1 hM2 hP1 hP2) | ((with_reducible show wpList _ _ _ ({ dst := _, op := Op.store 24 _ _, type := _, pos := _, after := _, guard := _ } :: _) _ _); refine wpList_store_row rfl 24 _ _ rfl w15.heap.size (rval GG a9 k9) rfl rfl 24 RZ HZ15.out (HIR.out _ _ _) rfl (HRO.out _ _ _) ?_) | ((with_reducible show wpList _ _ _ ({ dst := _, op := Op.load 24 _, type := _, pos := _, after := _, guard := _ } :: _) _ _); refine wpList_load_row_g (by rfl) 24 _ rfl w15.heap.size rfl 24 (rval GG a9 k9) (0, 0) _ HGc.out Tryd.underlying24 rfl (HIR.out _ _ _) ?_) | ((with_reducible show wpList _ _ _ ({ dst := _, op := Op.load 24 _, type := _, pos := _, after := _, guard := _ } :: _) _ _); refine wpList_load_row_g (by rfl) 24 _ rfl mA rfl 24 (rval M bM eM) (0, 0) _ HMc.out Tryd.underlying24 rfl (HIR.out _ _ _) ?_) | ((with_reducible show wpList _ _ _ ({ dst := _, op := Op.load 24 _, type := _, pos := _, after := _, guard := _ } :: _) _ _); refine wpList_load_row_g (by rfl) 24 _ rfl pA rfl 24 (rval P1 bP eP) (0, 0) _ HPc.out Tryd.underlying24 rfl (HIR.out _ _ _) ?_) | (go_at_call 19; (with_reducible refine (HSM.out _ _ _ _ _ HGVc.out HMVc.out).mono ?_); rintro e wS ⟨rfl, hfS⟩; have HGc' := Lib.hid (Fr.keep hfS HGc.out (fun h => h)); clear HGc; have HGc := HGc'; clear HGc'; have HMc' := Lib.hid (Fr.keep hfS HMc.out (fun h => h)); clear HMc; have HMc := HMc'; clear HMc'; have HPc' := Lib.hid (Fr.keep hfS HPc.out (fun h => h)); clear HPc; have HPc := HPc'; clear HPc'; have HGVc' := Lib.hid (RV.keep HGVc.out hfS); clear HGVc; have HGVc := HGVc'; clear HGVc'; have HMVc' := Lib.hid (RV.keep HMVc.out hfS); clear HMVc; have HMVc := HMVc'; clear HMVc'; have HPVc' := Lib.hid (RV.keep HPVc.out hfS); clear HPVc; have HPVc := HPVc'; clear HPVc'; have HFc' := Lib.hid (HFc.out.then0 hfS); clear HFc; have HFc := HFc'; clear HFc'; clear hfS) | (go_at_call 19; (with_reducible refine (HSP.out _ _ _ _ _ HGVc.out HPVc.out).mono ?_); rintro e wS ⟨rfl, hfS⟩; have HGc' := Lib.hid (Fr.keep hfS HGc.out (fun h => h)); clear HGc; have HGc := HGc'; clear HGc'; have HMc' := Lib.hid (Fr.keep hfS HMc.out (fun h => h)); clear HMc; have HMc := HMc'; clear HMc'; have HPc' := Lib.hid (Fr.keep hfS HPc.out (fun h => h)); clear HPc; have HPc := HPc'; clear HPc'; have HGVc' := Lib.hid (RV.keep HGVc.out hfS); clear HGVc; have HGVc := HGVc'; clear HGVc'; have HMVc' := Lib.hid (RV.keep HMVc.out hfS); clear HMVc; have HMVc := HMVc'; clear HMVc'; have HPVc' := Lib.hid (RV.keep HPVc.out hfS); clear HPVc; have HPVc := HPVc'; clear HPVc'; have HFc' := Lib.hid (HFc.out.then0 hfS); clear HFc; have HFc := HFc'; clear HFc'; clear hfS))
                go_ret
                exact ⟨rfl, HFc.out⟩
              · go_wp2_with (first | (go_at_call 30; (with_reducible refine (HA2.out _ _ _ _ _ _ HZ11.out).mono ?_); rintro e w12 ⟨rfl, ha⟩; have HD12 : Hid (PS w12 w.heap.size mA d M) := Lib.hid (PS.past HD11.out HOK.out HS11.out (ha.fr.weaken (fun _ _ h => .inl h)) HN2.out.1 (by have := HN2.out; omega) (by have := HN2.out; omega) (by have := HN2.out; omega) (by have := HN2.out; omega)); have HP12 : Hid (PS w12 yA pA D1 P1) := Lib.hid (PS.past HP11.out HO1.out.1 HS11.out (ha.fr.weaken (fun _ _ h => .inl h)) HN2.out.1 (by have := HN2.out; omega) (by have := HN2.out; omega) (by have := HN2.out; omega) (by have := HN2.out; omega)); have HS12 : Hid (PS w12 zA qA DW M) := Lib.hid (PS.of ha.at_ (ha.fr.keep HQ11.out HN2.out.1) (RV.past HQV11.out ha.fr HZ11.out.blk)); have HL12 := Lib.hid (ha.fr.keep HL11.out (by have := HN2.out; omega)); have HG12 := Lib.hid (ha.fr.keep HG11.out (by have := HN2.out; omega)); have HF12 : Hid (Fr0 w w12) := Lib.hid (HF11.out.then ha.fr (fun i hi e => by have := HN2.out; omega)); have HR12 : Hid (RdB w12 ka keep) := Lib.hid (RdB_keep HRD.out HF12.out); have l120 := lay_cell HL12.out; clear ha) | ((with_reducible show wpList _ _ _ ({ dst := _, op := Op.load 27 _, type := _, pos := _, after := _, guard := _ } :: _) _ _); refine wpList_load_mid_g (by rfl) 27 _ rfl (w.heap.size + 1) 1 rfl (b.map B) _ (lay_range HL12.out) Tryd.underlying27 rfl HIL.out ?_) | (go_at_call 25; (with_reducible refine (HW2.out _ _ _ HN2.out.1 (HSH.out.keep0 HF12.out) HS12.out).mono ?_); rintro e w13 ⟨rfl, hps, hfr⟩; obtain ⟨⟨v1, v2, v3, v4, hsd⟩, -⟩ := hps; have HS13 := Lib.hid hsd; have HD13 : Hid (PS w13 w.heap.size mA d M) := Lib.hid (PS.past HD12.out HOK.out HS12.out hfr HN2.out.1 (by have := HN2.out; omega) (by have := HN2.out; omega) (by have := HN2.out; omega) (by have := HN2.out; omega)); have HP13 : Hid (PS w13 yA pA D1 P1) := Lib.hid (PS.past HP12.out HO1.out.1 HS12.out hfr HN2.out.1 (by have := HN2.out; omega) (by have := HN2.out; omega) (by have := HN2.out; omega) (by have := HN2.out; omega)); have HG13 := Lib.hid (hfr.keep HG12.out (by have := HN2.out; omega)); have HF13 : Hid (Fr0 w w13) := Lib.hid (HF12.out.then hfr (fun i hi e => by have := HN2.out; omega)); have HR13 : Hid (RdB w13 ka keep) := Lib.hid (RdB_keep HRD.out HF13.out); have g131 : w13.cell? ⟨(w.heap.size + 1 + 1), 1, none⟩ = some (.slice ka keep.length kc) := Bk.cell HG13.out 1; clear hsd hfr) | (go_at_call 31; (with_reducible refine (HC2.out _ _ _ _ _ _ HS13.out HR13.out (by have := HN2.out; omega)).mono ?_); rintro e w14 ⟨rfl, ⟨⟨x1, x2, x3, x4, hsd⟩, hfr⟩⟩; have HS14 := Lib.hid hsd; have HD14 : Hid (PS w14 w.heap.size mA d M) := Lib.hid (PS.past1 HD13.out HOK.out HS13.out hfr (by have := HN2.out; omega) (by have := HN2.out; omega)); have HP14 : Hid (PS w14 yA pA D1 P1) := Lib.hid (PS.past1 HP13.out HO1.out.1 HS13.out hfr (by have := HN2.out; omega) (by have := HN2.out; omega)); have HF14 : Hid (Fr0 w w14) := Lib.hid (HF13.out.then hfr (fun i hi e => by have := HN2.out; omega)); clear hsd hfr) | (go_at_call 29; (with_reducible refine (HL2.out _ _ _ _ _ _ HF14.out HS14.out).mono ?_); rintro e w15 ⟨a9, k9, rfl, hv9, hfr⟩; have HZ15 := Lib.hid (Bk.new w15 (.cells RZ 24)); have hfx : Fr0 w15 ((w15.alloc (.cells RZ 24)).setRow w15.heap.size (rval GG a9 k9)) := ArrKit.Fr.row (Fr.alloc (Fr.refl _ _) _) _ _ (.inl (Nat.le_refl _)); have hfy := hfr.then0 hfx; obtain ⟨-, bM, eM, hM1, hM2⟩ := HD14.out.keep0 hfy; obtain ⟨-, bP, eP, hP1, hP2⟩ := HP14.out.keep0 hfy; have HMc := Lib.hid hM1; have HMVc := Lib.hid hM2; have HPc := Lib.hid hP1; have HPVc := Lib.hid hP2; have HGc : Hid (Bk ((w15.alloc (.cells RZ 24)).setRow w15.heap.size (rval GG a9 k9)) w15.heap.size (rval GG a9 k9) 24) := Lib.hid (ArrKit.Bk.row HZ15.out _); have HGVc : Hid (RV ((w15.alloc (.cells RZ 24)).setRow w15.heap.size (rval GG a9 k9)) GG a9 k9) := Lib.hid (hv9.keep hfx); have HFc : Hid (Fr0 w ((w15.alloc (.cells RZ 24)).setRow w15.heap.size (rval GG a9 k9))) := Lib.hid (HF14.out.then0 hfy); clear hv9 hfr hfx hfy hM1 hM2 hP1 hP2) | ((with_reducible show wpList _ _ _ ({ dst := _, op := Op.store 24 _ _, type := _, pos := _, after := _, guard := _ } :: _) _ _); refine wpList_store_row rfl 24 _ _ rfl w15.heap.size (rval GG a9 k9) rfl rfl 24 RZ HZ15.out (HIR.out _ _ _) rfl (HRO.out _ _ _) ?_) | ((with_reducible show wpList _ _ _ ({ dst := _, op := Op.load 24 _, type := _, pos := _, after := _, guard := _ } :: _) _ _); refine wpList_load_row_g (by rfl) 24 _ rfl w15.heap.size rfl 24 (rval GG a9 k9) (0, 0) _ HGc.out Tryd.underlying24 rfl (HIR.out _ _ _) ?_) | ((with_reducible show wpList _ _ _ ({ dst := _, op := Op.load 24 _, type := _, pos := _, after := _, guard := _ } :: _) _ _); refine wpList_load_row_g (by rfl) 24 _ rfl mA rfl 24 (rval M bM eM) (0, 0) _ HMc.out Tryd.underlying24 rfl (HIR.out _ _ _) ?_) | ((with_reducible show wpList _ _ _ ({ dst := _, op := Op.load 24 _, type := _, pos := _, after := _, guard := _ } :: _) _ _); refine wpList_load_row_g (by rfl) 24 _ rfl pA rfl 24 (rval P1 bP eP) (0, 0) _ HPc.out Tryd.underlying24 rfl (HIR.out _ _ _) ?_) | (go_at_call 19; (with_reducible refine (HSM.out _ _ _ _ _ HGVc.out HMVc.out).mono ?_); rintro e wS ⟨rfl, hfS⟩; have HGc' := Lib.hid (Fr.keep hfS HGc.out (fun h => h)); clear HGc; have HGc := HGc'; clear HGc'; have HMc' := Lib.hid (Fr.keep hfS HMc.out (fun h => h)); clear HMc; have HMc := HMc'; clear HMc'; have HPc' := Lib.hid (Fr.keep hfS HPc.out (fun h => h)); clear HPc; have HPc := HPc'; clear HPc'; have HGVc' := Lib.hid (RV.keep HGVc.out hfS); clear HGVc; have HGVc := HGVc'; clear HGVc'; have HMVc' := Lib.hid (RV.keep HMVc.out hfS); clear HMVc; have HMVc := HMVc'; clear HMVc'; have HPVc' := Lib.hid (RV.keep HPVc.out hfS); clear HPVc; have HPVc := HPVc'; clear HPVc'; have HFc' := Lib.hid (HFc.out.then0 hfS); clear HFc; have HFc := HFc'; clear HFc'; clear hfS) | (go_at_call 19; (with_reducible refine (HSP.out _ _ _ _ _ HGVc.out HPVc.out).mono ?_); rintro e wS ⟨rfl, hfS⟩; have HGc' := Lib.hid (Fr.keep hfS HGc.out (fun h => h)); clear HGc; have HGc := HGc'; clear HGc'; have HMc' := Lib.hid (Fr.keep hfS HMc.out (fun h => h)); clear HMc; have HMc := HMc'; clear HMc'; have HPc' := Lib.hid (Fr.keep hfS HPc.out (fun h => h)); clear HPc; have HPc := HPc'; clear HPc'; have HGVc' := Lib.hid (RV.keep HGVc.out hfS); clear HGVc; have HGVc := HGVc'; clear HGVc'; have HMVc' := Lib.hid (RV.keep HMVc.out hfS); clear HMVc; have HMVc := HMVc'; clear HMVc'; have HPVc' := Lib.hid (RV.keep HPVc.out hfS); clear HPVc; have HPVc := HPVc'; clear HPVc'; have HFc' := Lib.hid (HFc.out.then0 hfS); clear HFc; have HFc := HFc'; clear HFc'; clear hfS))
                go_ret
                exact ⟨rfl, HFc.out⟩
            )
          clear hKB
          refine wp_region_noPanic ?_
          refine wp_region_held_drew (S := (fun W : World => Fr (fun _ => False) w10 W)) (by kernel_rfl) (Fr.drew (Fr.refl _ _)) (fun hHeld0 => ?_)
          generalize w10.drew = wd at *
          change wpAnyH _ _ _ _ _ 8 #[false, false, false, false, false, false, false, false] _ _
          refine wpAnyH_take (i := 0) (v := .agg (dval d y1 y2 y3 y4)) rfl (by kernel_rfl) (by kernel_rfl) (by kernel_rfl) (fun _ _ _ h => h) (yields_row (by kernel_rfl) 39 _ rfl (w.heap.size) rfl 39 (dval d y1 y2 y3 y4) (0, 0) _ (fun _ h => Fr.keep h HX10.out (fun h => h)) Tryd.underlying39 rfl (HID.out _ _ _ _ _)) hHeld0 ?_
          simp only [Act.put, List.getElem_toArray, List.getElem_cons_succ, List.getElem_cons_zero, List.setIfInBounds_toArray, List.set_cons_zero, List.set_cons_succ]
          change wpAnyH _ _ _ _ _ 7 #[true, false, false, false, false, false, false, false] _ _
          refine wpAnyH_take (i := 2) (v := .agg (rval M aM cM)) rfl (by kernel_rfl) (by kernel_rfl) (by kernel_rfl) (fun _ _ _ h => h) (yields_row (by kernel_rfl) 24 _ rfl (mA) rfl 24 (rval M aM cM) (0, 0) _ (fun _ h => Fr.keep h HM10.out (fun h => h)) Tryd.underlying24 rfl (HIR.out _ _ _)) hHeld0 ?_
          simp only [Act.put, List.getElem_toArray, List.getElem_cons_succ, List.getElem_cons_zero, List.setIfInBounds_toArray, List.set_cons_zero, List.set_cons_succ]
          change wpAnyH _ _ _ _ _ 6 #[true, false, true, false, false, false, false, false] _ _
          refine wpAnyH_ready (rs := [1, 4, 5]) (by kernel_rfl) (by simp) ?_
          refine AllReadyH.cons rfl (fun K hK => ?_) (AllReadyH.cons rfl (fun K hK => ?_) (AllReadyH.cons rfl (fun K hK => ?_) (AllReadyH.nil)))
          · simp only [List.getElem_toArray, List.getElem_cons_succ, List.getElem_cons_zero]
            refine (if_pos (by kernel_rfl)).mpr ?_
            go_wp2_with fail
            refine (HDC.out _ _ _ _ _ (HV10.out.keep hHeld0)).mono ?_
            rintro e wx0 ⟨s3, n3, c3, m3, rfl, hown0, hfx0⟩
            dsimp only
            have HO0 := Lib.hid hown0
            clear hown0
            refine hK.out _ _ (hHeld0.then0 hfx0) (fun hHeld1 => ?_)
            clear hK K hHeld0
            clear hfx0
            change wpAnyH _ _ _ _ _ 5 #[true, true, true, false, false, false, false, false] _ _
            refine wpAnyH_ready (rs := [3, 4, 5]) (by kernel_rfl) (by simp) ?_
            refine AllReadyH.cons rfl (fun K hK => ?_) (AllReadyH.cons rfl (fun K hK => ?_) (AllReadyH.cons rfl (fun K hK => ?_) (AllReadyH.nil)))
            · simp only [List.getElem_toArray, List.getElem_cons_succ, List.getElem_cons_zero]
              refine (if_pos (by kernel_rfl)).mpr ?_
              go_wp2_with fail
              refine (HRC.out _ _ _ (HMV10.out.keep hHeld1)).mono ?_
              rintro e wx1 ⟨a3, k3, rfl, hown1, hfx1⟩
              dsimp only
              have HO0' := Lib.hid (DV.keep HO0.out hfx1)
              clear HO0
              have HO0 := HO0'
              clear HO0'
              have HO1 := Lib.hid hown1
              clear hown1
              refine hK.out _ _ (hHeld1.then0 hfx1) (fun hHeld2 => ?_)
              clear hK K hHeld1
              clear hfx1
              change wpAnyH _ _ _ _ _ 4 #[true, true, true, true, false, false, false, false] _ _
              refine wpAnyH_ready (rs := [4, 5]) (by kernel_rfl) (by simp) ?_
              refine AllReadyH.cons rfl (fun K hK => ?_) (AllReadyH.cons rfl (fun K hK => ?_) (AllReadyH.nil))
              · simp only [List.getElem_toArray, List.getElem_cons_succ, List.getElem_cons_zero]
                refine (if_pos (by kernel_rfl)).mpr ?_
                go_wp2_with fail
                have hfx2 : Fr (fun _ => False) wx1 (wx1.alloc (.cells DZ 39)) := Fr.alloc (Fr.refl _ _) _
                have HLO0 : Hid (w10.heap.size ≤ wx1.heap.size) := Lib.hid (Fr.size hHeld2)
                have HO0' := Lib.hid (DV.keep HO0.out hfx2)
                clear HO0
                have HO0 := HO0'
                clear HO0'
                have HO1' := Lib.hid (RV.keep HO1.out hfx2)
                clear HO1
                have HO1 := HO1'
                clear HO1'
                have HZ0 : Hid (Bk (wx1.alloc (.cells DZ 39)) wx1.heap.size DZ 39) := Lib.hid (Bk.new wx1 _)
                have HB0 : Hid (wx1.heap.size < (wx1.alloc (.cells DZ 39)).heap.size) := Lib.hid (Bk.lt HZ0.out)
                refine hK.out _ _ (hHeld2.then0 hfx2) (fun hHeld3 => ?_)
                clear hK K hHeld2
                clear hfx2
                generalize wx1.heap.size = pA9 at *
                generalize (wx1.alloc (.cells DZ 39)) = wx2 at *
                change wpAnyH _ _ _ _ _ 3 #[true, true, true, true, true, false, false, false] _ _
                refine wpAnyH_ready (rs := [5]) (by kernel_rfl) (by simp) ?_
                refine AllReadyH.cons rfl (fun K hK => ?_) AllReadyH.nil
                simp only [List.getElem_toArray, List.getElem_cons_succ, List.getElem_cons_zero]
                refine (if_pos (by kernel_rfl)).mpr ?_
                go_wp2_with fail
                have hfx3 : Fr (fun _ => False) wx2 (wx2.alloc (.cells RZ 24)) := Fr.alloc (Fr.refl _ _) _
                have HLO1 : Hid (w10.heap.size ≤ wx2.heap.size) := Lib.hid (Fr.size hHeld3)
                have HPQ : Hid (pA9 ≠ wx2.heap.size) := Lib.hid (by have h1 := Bk.lt HZ0.out; omega)
                have HO0' := Lib.hid (DV.keep HO0.out hfx3)
                clear HO0
                have HO0 := HO0'
                clear HO0'
                have HO1' := Lib.hid (RV.keep HO1.out hfx3)
                clear HO1
                have HO1 := HO1'
                clear HO1'
                have HZ0' := Lib.hid (hfx3.keep HZ0.out (fun h => h))
                clear HZ0
                have HZ0 := HZ0'
                clear HZ0'
                have HZ1 : Hid (Bk (wx2.alloc (.cells RZ 24)) wx2.heap.size RZ 24) := Lib.hid (Bk.new wx2 _)
                have HB1 : Hid (wx2.heap.size < (wx2.alloc (.cells RZ 24)).heap.size) := Lib.hid (Bk.lt HZ1.out)
                have HB0' : Hid (pA9 < (wx2.alloc (.cells RZ 24)).heap.size) := Lib.hid (Bk.lt HZ0.out)
                clear HB0
                have HB0 := HB0'
                clear HB0'
                refine hK.out _ _ (hHeld3.then0 hfx3) (fun hHeld4 => ?_)
                clear hK K hHeld3
                clear hfx3
                generalize wx2.heap.size = pB9 at *
                generalize (wx2.alloc (.cells RZ 24)) = wx3 at *
                change wpAnyH _ _ _ _ _ 2 #[true, true, true, true, true, true, false, false] _ _
                refine wpAnyH_ready (rs := [6]) (by kernel_rfl) (by simp) ?_
                refine AllReadyH.cons rfl (fun K hK => ?_) AllReadyH.nil
                simp only [List.getElem_toArray, List.getElem_cons_succ, List.getElem_cons_zero]
                refine (if_pos (by kernel_rfl)).mpr ?_
                refine wp_store_row 39 _ _ rfl pA9 (dval d s3 n3 c3 m3) rfl rfl 39 DZ HZ0.out (HID.out _ _ _ _ _) rfl (HDO.out _ _ _ _ _) ?_
                have hfx4 := Fr.row1 wx3 pA9 (dval d s3 n3 c3 m3)
                have HO0' := Lib.hid (DV.past HO0.out HOK.out hfx4 HZ0.out DZ_no)
                clear HO0
                have HO0 := HO0'
                clear HO0'
                have HO1' := Lib.hid (RV.past HO1.out hfx4 (show Bk _ _ (dval ⟨[], [], 0, false⟩ none 0 none 0) 39 from HZ0.out))
                clear HO1
                have HO1 := HO1'
                clear HO1'
                have HZ1' := Lib.hid ((show Bk (wx3.setRow pA9 (dval d s3 n3 c3 m3)) pB9 RZ 24 from ArrKit.Bk.rowOther HZ1.out _ (HPQ.out.symm)))
                clear HZ1
                have HZ1 := HZ1'
                clear HZ1'
                have HX0' : Hid (Bk (wx3.setRow pA9 (dval d s3 n3 c3 m3)) pA9 (dval d s3 n3 c3 m3) 39) := Lib.hid (ArrKit.Bk.row HZ0.out _)
                clear HZ0
                have HZ0 := HX0'
                clear HX0'
                refine hK.out _ _ (ArrKit.Fr.row hHeld4 _ _ (.inl HLO0.out)) (fun hHeld5 => ?_)
                clear hK K hHeld4
                clear hfx4
                generalize (wx3.setRow pA9 (dval d s3 n3 c3 m3)) = wx4 at *
                change wpAnyH _ _ _ _ _ 1 #[true, true, true, true, true, true, true, false] _ _
                refine wpAnyH_ready (rs := [7]) (by kernel_rfl) (by simp) ?_
                refine AllReadyH.cons rfl (fun K hK => ?_) AllReadyH.nil
                simp only [List.getElem_toArray, List.getElem_cons_succ, List.getElem_cons_zero]
                refine (if_pos (by kernel_rfl)).mpr ?_
                refine wp_store_row 24 _ _ rfl pB9 (rval M a3 k3) rfl rfl 24 RZ HZ1.out (HIR.out _ _ _) rfl (HRO.out _ _ _) ?_
                have hfx5 := Fr.row1 wx4 pB9 (rval M a3 k3)
                have HO0' := Lib.hid (DV_past HO0.out HOK.out hfx5 HZ1.out (rc_no 0 none 0 0))
                clear HO0
                have HO0 := HO0'
                clear HO0'
                have HO1' := Lib.hid (RV.pastR HO1.out hfx5 HZ1.out)
                clear HO1
                have HO1 := HO1'
                clear HO1'
                have HZ0' := Lib.hid ((show Bk (wx4.setRow pB9 (rval M a3 k3)) pA9 (dval d s3 n3 c3 m3) 39 from ArrKit.Bk.rowOther HZ0.out _ (HPQ.out)))
                clear HZ0
                have HZ0 := HZ0'
                clear HZ0'
                have HX1' : Hid (Bk (wx4.setRow pB9 (rval M a3 k3)) pB9 (rval M a3 k3) 24) := Lib.hid (ArrKit.Bk.row HZ1.out _)
                clear HZ1
                have HZ1 := HX1'
                clear HX1'
                refine hK.out _ _ (ArrKit.Fr.row hHeld5 _ _ (.inl HLO1.out)) (fun hHeld6 => ?_)
                clear hK K hHeld5
                clear hfx5
                generalize (wx4.setRow pB9 (rval M a3 k3)) = wx5 at *
                change wpAnyH _ _ _ _ _ 0 #[true, true, true, true, true, true, true, true] _ _
                refine wpAnyH_done (by kernel_rfl) ?_ _
                refine NoPanic.normal ?_
                have HEND := Lib.hid hHeld6
                clear hHeld6
                exact HREST2.out wx5 pA9 pB9 s3 n3 c3 m3 a3 k3 HEND.out ⟨HZ0.out, HO0.out⟩ HZ1.out HO1.out HPQ.out HLO0.out HLO1.out
              · simp only [List.getElem_toArray, List.getElem_cons_succ, List.getElem_cons_zero]
                refine (if_pos (by kernel_rfl)).mpr ?_
                go_wp2_with fail
                have hfx2 : Fr (fun _ => False) wx1 (wx1.alloc (.cells RZ 24)) := Fr.alloc (Fr.refl _ _) _
                have HLO1 : Hid (w10.heap.size ≤ wx1.heap.size) := Lib.hid (Fr.size hHeld2)
                have HO0' := Lib.hid (DV.keep HO0.out hfx2)
                clear HO0
                have HO0 := HO0'
                clear HO0'
                have HO1' := Lib.hid (RV.keep HO1.out hfx2)
                clear HO1
                have HO1 := HO1'
                clear HO1'
                have HZ1 : Hid (Bk (wx1.alloc (.cells RZ 24)) wx1.heap.size RZ 24) := Lib.hid (Bk.new wx1 _)
                have HB1 : Hid (wx1.heap.size < (wx1.alloc (.cells RZ 24)).heap.size) := Lib.hid (Bk.lt HZ1.out)
                refine hK.out _ _ (hHeld2.then0 hfx2) (fun hHeld3 => ?_)
                clear hK K hHeld2
                clear hfx2
                generalize wx1.heap.size = pB9 at *
                generalize (wx1.alloc (.cells RZ 24)) = wx2 at *
                change wpAnyH _ _ _ _ _ 3 #[true, true, true, true, false, true, false, false] _ _
                refine wpAnyH_ready (rs := [4]) (by kernel_rfl) (by simp) ?_
                refine AllReadyH.cons rfl (fun K hK => ?_) AllReadyH.nil
                simp only [List.getElem_toArray, List.getElem_cons_succ, List.getElem_cons_zero]
                refine (if_pos (by kernel_rfl)).mpr ?_
                go_wp2_with fail
                have hfx3 : Fr (fun _ => False) wx2 (wx2.alloc (.cells DZ 39)) := Fr.alloc (Fr.refl _ _) _
                have HLO0 : Hid (w10.heap.size ≤ wx2.heap.size) := Lib.hid (Fr.size hHeld3)
                have HPQ : Hid (wx2.heap.size ≠ pB9) := Lib.hid (by have h1 := Bk.lt HZ1.out; omega)
                have HO0' := Lib.hid (DV.keep HO0.out hfx3)
                clear HO0
                have HO0 := HO0'
                clear HO0'
                have HO1' := Lib.hid (RV.keep HO1.out hfx3)
                clear HO1
                have HO1 := HO1'
                clear HO1'
                have HZ1' := Lib.hid (hfx3.keep HZ1.out (fun h => h))
                clear HZ1
                have HZ1 := HZ1'
                clear HZ1'
                have HZ0 : Hid (Bk (wx2.alloc (.cells DZ 39)) wx2.heap.size DZ 39) := Lib.hid (Bk.new wx2 _)
                have HB0 : Hid (wx2.heap.size < (wx2.alloc (.cells DZ 39)).heap.size) := Lib.hid (Bk.lt HZ0.out)
                have HB1' : Hid (pB9 < (wx2.alloc (.cells DZ 39)).heap.size) := Lib.hid (Bk.lt HZ1.out)
                clear HB1
                have HB1 := HB1'
                clear HB1'
                refine hK.out _ _ (hHeld3.then0 hfx3) (fun hHeld4 => ?_)
                clear hK K hHeld3
                clear hfx3
                generalize wx2.heap.size = pA9 at *
                generalize (wx2.alloc (.cells DZ 39)) = wx3 at *
                change wpAnyH _ _ _ _ _ 2 #[true, true, true, true, true, true, false, false] _ _
                refine wpAnyH_ready (rs := [6]) (by kernel_rfl) (by simp) ?_
                refine AllReadyH.cons rfl (fun K hK => ?_) AllReadyH.nil
                simp only [List.getElem_toArray, List.getElem_cons_succ, List.getElem_cons_zero]
                refine (if_pos (by kernel_rfl)).mpr ?_
                refine wp_store_row 39 _ _ rfl pA9 (dval d s3 n3 c3 m3) rfl rfl 39 DZ HZ0.out (HID.out _ _ _ _ _) rfl (HDO.out _ _ _ _ _) ?_
                have hfx4 := Fr.row1 wx3 pA9 (dval d s3 n3 c3 m3)
                have HO0' := Lib.hid (DV.past HO0.out HOK.out hfx4 HZ0.out DZ_no)
                clear HO0
                have HO0 := HO0'
                clear HO0'
                have HO1' := Lib.hid (RV.past HO1.out hfx4 (show Bk _ _ (dval ⟨[], [], 0, false⟩ none 0 none 0) 39 from HZ0.out))
                clear HO1
                have HO1 := HO1'
                clear HO1'
                have HZ1' := Lib.hid ((show Bk (wx3.setRow pA9 (dval d s3 n3 c3 m3)) pB9 RZ 24 from ArrKit.Bk.rowOther HZ1.out _ (HPQ.out.symm)))
                clear HZ1
                have HZ1 := HZ1'
                clear HZ1'
                have HX0' : Hid (Bk (wx3.setRow pA9 (dval d s3 n3 c3 m3)) pA9 (dval d s3 n3 c3 m3) 39) := Lib.hid (ArrKit.Bk.row HZ0.out _)
                clear HZ0
                have HZ0 := HX0'
                clear HX0'
                refine hK.out _ _ (ArrKit.Fr.row hHeld4 _ _ (.inl HLO0.out)) (fun hHeld5 => ?_)
                clear hK K hHeld4
                clear hfx4
                generalize (wx3.setRow pA9 (dval d s3 n3 c3 m3)) = wx4 at *
                change wpAnyH _ _ _ _ _ 1 #[true, true, true, true, true, true, true, false] _ _
                refine wpAnyH_ready (rs := [7]) (by kernel_rfl) (by simp) ?_
                refine AllReadyH.cons rfl (fun K hK => ?_) AllReadyH.nil
                simp only [List.getElem_toArray, List.getElem_cons_succ, List.getElem_cons_zero]
                refine (if_pos (by kernel_rfl)).mpr ?_
                refine wp_store_row 24 _ _ rfl pB9 (rval M a3 k3) rfl rfl 24 RZ HZ1.out (HIR.out _ _ _) rfl (HRO.out _ _ _) ?_
                have hfx5 := Fr.row1 wx4 pB9 (rval M a3 k3)
                have HO0' := Lib.hid (DV_past HO0.out HOK.out hfx5 HZ1.out (rc_no 0 none 0 0))
                clear HO0
                have HO0 := HO0'
                clear HO0'
                have HO1' := Lib.hid (RV.pastR HO1.out hfx5 HZ1.out)
                clear HO1
                have HO1 := HO1'
                clear HO1'
                have HZ0' := Lib.hid ((show Bk (wx4.setRow pB9 (rval M a3 k3)) pA9 (dval d s3 n3 c3 m3) 39 from ArrKit.Bk.rowOther HZ0.out _ (HPQ.out)))
                clear HZ0
                have HZ0 := HZ0'
                clear HZ0'
                have HX1' : Hid (Bk (wx4.setRow pB9 (rval M a3 k3)) pB9 (rval M a3 k3) 24) := Lib.hid (ArrKit.Bk.row HZ1.out _)
                clear HZ1
                have HZ1 := HX1'
                clear HX1'
                refine hK.out _ _ (ArrKit.Fr.row hHeld5 _ _ (.inl HLO1.out)) (fun hHeld6 => ?_)
                clear hK K hHeld5
                clear hfx5
                generalize (wx4.setRow pB9 (rval M a3 k3)) = wx5 at *
                change wpAnyH _ _ _ _ _ 0 #[true, true, true, true, true, true, true, true] _ _
                refine wpAnyH_done (by kernel_rfl) ?_ _
                refine NoPanic.normal ?_
                have HEND := Lib.hid hHeld6
                clear hHeld6
                exact HREST2.out wx5 pA9 pB9 s3 n3 c3 m3 a3 k3 HEND.out ⟨HZ0.out, HO0.out⟩ HZ1.out HO1.out HPQ.out HLO0.out HLO1.out
            · simp only [List.getElem_toArray, List.getElem_cons_succ, List.getElem_cons_zero]
              refine (if_pos (by kernel_rfl)).mpr ?_
              go_wp2_with fail
              have hfx1 : Fr (fun _ => False) wx0 (wx0.alloc (.cells DZ 39)) := Fr.alloc (Fr.refl _ _) _
              have HLO0 : Hid (w10.heap.size ≤ wx0.heap.size) := Lib.hid (Fr.size hHeld1)
              have HO0' := Lib.hid (DV.keep HO0.out hfx1)
              clear HO0
              have HO0 := HO0'
              clear HO0'
              have HZ0 : Hid (Bk (wx0.alloc (.cells DZ 39)) wx0.heap.size DZ 39) := Lib.hid (Bk.new wx0 _)
              have HB0 : Hid (wx0.heap.size < (wx0.alloc (.cells DZ 39)).heap.size) := Lib.hid (Bk.lt HZ0.out)
              refine hK.out _ _ (hHeld1.then0 hfx1) (fun hHeld2 => ?_)
              clear hK K hHeld1
              clear hfx1
              generalize wx0.heap.size = pA9 at *
              generalize (wx0.alloc (.cells DZ 39)) = wx1 at *
              change wpAnyH _ _ _ _ _ 4 #[true, true, true, false, true, false, false, false] _ _
              refine wpAnyH_ready (rs := [3, 5]) (by kernel_rfl) (by simp) ?_
              refine AllReadyH.cons rfl (fun K hK => ?_) (AllReadyH.cons rfl (fun K hK => ?_) (AllReadyH.nil))
              · simp only [List.getElem_toArray, List.getElem_cons_succ, List.getElem_cons_zero]
                refine (if_pos (by kernel_rfl)).mpr ?_
                go_wp2_with fail
                refine (HRC.out _ _ _ (HMV10.out.keep hHeld2)).mono ?_
                rintro e wx2 ⟨a3, k3, rfl, hown1, hfx2⟩
                dsimp only
                have HO0' := Lib.hid (DV.keep HO0.out hfx2)
                clear HO0
                have HO0 := HO0'
                clear HO0'
                have HZ0' := Lib.hid (hfx2.keep HZ0.out (fun h => h))
                clear HZ0
                have HZ0 := HZ0'
                clear HZ0'
                have HO1 := Lib.hid hown1
                clear hown1
                have HB0' : Hid (pA9 < wx2.heap.size) := Lib.hid (Bk.lt HZ0.out)
                clear HB0
                have HB0 := HB0'
                clear HB0'
                refine hK.out _ _ (hHeld2.then0 hfx2) (fun hHeld3 => ?_)
                clear hK K hHeld2
                clear hfx2
                change wpAnyH _ _ _ _ _ 3 #[true, true, true, true, true, false, false, false] _ _
                refine wpAnyH_ready (rs := [5]) (by kernel_rfl) (by simp) ?_
                refine AllReadyH.cons rfl (fun K hK => ?_) AllReadyH.nil
                simp only [List.getElem_toArray, List.getElem_cons_succ, List.getElem_cons_zero]
                refine (if_pos (by kernel_rfl)).mpr ?_
                go_wp2_with fail
                have hfx3 : Fr (fun _ => False) wx2 (wx2.alloc (.cells RZ 24)) := Fr.alloc (Fr.refl _ _) _
                have HLO1 : Hid (w10.heap.size ≤ wx2.heap.size) := Lib.hid (Fr.size hHeld3)
                have HPQ : Hid (pA9 ≠ wx2.heap.size) := Lib.hid (by have h1 := Bk.lt HZ0.out; omega)
                have HO0' := Lib.hid (DV.keep HO0.out hfx3)
                clear HO0
                have HO0 := HO0'
                clear HO0'
                have HZ0' := Lib.hid (hfx3.keep HZ0.out (fun h => h))
                clear HZ0
                have HZ0 := HZ0'
                clear HZ0'
                have HO1' := Lib.hid (RV.keep HO1.out hfx3)
                clear HO1
                have HO1 := HO1'
                clear HO1'
                have HZ1 : Hid (Bk (wx2.alloc (.cells RZ 24)) wx2.heap.size RZ 24) := Lib.hid (Bk.new wx2 _)
                have HB1 : Hid (wx2.heap.size < (wx2.alloc (.cells RZ 24)).heap.size) := Lib.hid (Bk.lt HZ1.out)
                have HB0' : Hid (pA9 < (wx2.alloc (.cells RZ 24)).heap.size) := Lib.hid (Bk.lt HZ0.out)
                clear HB0
                have HB0 := HB0'
                clear HB0'
                refine hK.out _ _ (hHeld3.then0 hfx3) (fun hHeld4 => ?_)
                clear hK K hHeld3
                clear hfx3
                generalize wx2.heap.size = pB9 at *
                generalize (wx2.alloc (.cells RZ 24)) = wx3 at *
                change wpAnyH _ _ _ _ _ 2 #[true, true, true, true, true, true, false, false] _ _
                refine wpAnyH_ready (rs := [6]) (by kernel_rfl) (by simp) ?_
                refine AllReadyH.cons rfl (fun K hK => ?_) AllReadyH.nil
                simp only [List.getElem_toArray, List.getElem_cons_succ, List.getElem_cons_zero]
                refine (if_pos (by kernel_rfl)).mpr ?_
                refine wp_store_row 39 _ _ rfl pA9 (dval d s3 n3 c3 m3) rfl rfl 39 DZ HZ0.out (HID.out _ _ _ _ _) rfl (HDO.out _ _ _ _ _) ?_
                have hfx4 := Fr.row1 wx3 pA9 (dval d s3 n3 c3 m3)
                have HO0' := Lib.hid (DV.past HO0.out HOK.out hfx4 HZ0.out DZ_no)
                clear HO0
                have HO0 := HO0'
                clear HO0'
                have HO1' := Lib.hid (RV.past HO1.out hfx4 (show Bk _ _ (dval ⟨[], [], 0, false⟩ none 0 none 0) 39 from HZ0.out))
                clear HO1
                have HO1 := HO1'
                clear HO1'
                have HZ1' := Lib.hid ((show Bk (wx3.setRow pA9 (dval d s3 n3 c3 m3)) pB9 RZ 24 from ArrKit.Bk.rowOther HZ1.out _ (HPQ.out.symm)))
                clear HZ1
                have HZ1 := HZ1'
                clear HZ1'
                have HX0' : Hid (Bk (wx3.setRow pA9 (dval d s3 n3 c3 m3)) pA9 (dval d s3 n3 c3 m3) 39) := Lib.hid (ArrKit.Bk.row HZ0.out _)
                clear HZ0
                have HZ0 := HX0'
                clear HX0'
                refine hK.out _ _ (ArrKit.Fr.row hHeld4 _ _ (.inl HLO0.out)) (fun hHeld5 => ?_)
                clear hK K hHeld4
                clear hfx4
                generalize (wx3.setRow pA9 (dval d s3 n3 c3 m3)) = wx4 at *
                change wpAnyH _ _ _ _ _ 1 #[true, true, true, true, true, true, true, false] _ _
                refine wpAnyH_ready (rs := [7]) (by kernel_rfl) (by simp) ?_
                refine AllReadyH.cons rfl (fun K hK => ?_) AllReadyH.nil
                simp only [List.getElem_toArray, List.getElem_cons_succ, List.getElem_cons_zero]
                refine (if_pos (by kernel_rfl)).mpr ?_
                refine wp_store_row 24 _ _ rfl pB9 (rval M a3 k3) rfl rfl 24 RZ HZ1.out (HIR.out _ _ _) rfl (HRO.out _ _ _) ?_
                have hfx5 := Fr.row1 wx4 pB9 (rval M a3 k3)
                have HO0' := Lib.hid (DV_past HO0.out HOK.out hfx5 HZ1.out (rc_no 0 none 0 0))
                clear HO0
                have HO0 := HO0'
                clear HO0'
                have HZ0' := Lib.hid ((show Bk (wx4.setRow pB9 (rval M a3 k3)) pA9 (dval d s3 n3 c3 m3) 39 from ArrKit.Bk.rowOther HZ0.out _ (HPQ.out)))
                clear HZ0
                have HZ0 := HZ0'
                clear HZ0'
                have HO1' := Lib.hid (RV.pastR HO1.out hfx5 HZ1.out)
                clear HO1
                have HO1 := HO1'
                clear HO1'
                have HX1' : Hid (Bk (wx4.setRow pB9 (rval M a3 k3)) pB9 (rval M a3 k3) 24) := Lib.hid (ArrKit.Bk.row HZ1.out _)
                clear HZ1
                have HZ1 := HX1'
                clear HX1'
                refine hK.out _ _ (ArrKit.Fr.row hHeld5 _ _ (.inl HLO1.out)) (fun hHeld6 => ?_)
                clear hK K hHeld5
                clear hfx5
                generalize (wx4.setRow pB9 (rval M a3 k3)) = wx5 at *
                change wpAnyH _ _ _ _ _ 0 #[true, true, true, true, true, true, true, true] _ _
                refine wpAnyH_done (by kernel_rfl) ?_ _
                refine NoPanic.normal ?_
                have HEND := Lib.hid hHeld6
                clear hHeld6
                exact HREST2.out wx5 pA9 pB9 s3 n3 c3 m3 a3 k3 HEND.out ⟨HZ0.out, HO0.out⟩ HZ1.out HO1.out HPQ.out HLO0.out HLO1.out
              · simp only [List.getElem_toArray, List.getElem_cons_succ, List.getElem_cons_zero]
                refine (if_pos (by kernel_rfl)).mpr ?_
                go_wp2_with fail
                have hfx2 : Fr (fun _ => False) wx1 (wx1.alloc (.cells RZ 24)) := Fr.alloc (Fr.refl _ _) _
                have HLO1 : Hid (w10.heap.size ≤ wx1.heap.size) := Lib.hid (Fr.size hHeld2)
                have HPQ : Hid (pA9 ≠ wx1.heap.size) := Lib.hid (by have h1 := Bk.lt HZ0.out; omega)
                have HO0' := Lib.hid (DV.keep HO0.out hfx2)
                clear HO0
                have HO0 := HO0'
                clear HO0'
                have HZ0' := Lib.hid (hfx2.keep HZ0.out (fun h => h))
                clear HZ0
                have HZ0 := HZ0'
                clear HZ0'
                have HZ1 : Hid (Bk (wx1.alloc (.cells RZ 24)) wx1.heap.size RZ 24) := Lib.hid (Bk.new wx1 _)
                have HB1 : Hid (wx1.heap.size < (wx1.alloc (.cells RZ 24)).heap.size) := Lib.hid (Bk.lt HZ1.out)
                have HB0' : Hid (pA9 < (wx1.alloc (.cells RZ 24)).heap.size) := Lib.hid (Bk.lt HZ0.out)
                clear HB0
                have HB0 := HB0'
                clear HB0'
                refine hK.out _ _ (hHeld2.then0 hfx2) (fun hHeld3 => ?_)
                clear hK K hHeld2
                clear hfx2
                generalize wx1.heap.size = pB9 at *
                generalize (wx1.alloc (.cells RZ 24)) = wx2 at *
                change wpAnyH _ _ _ _ _ 3 #[true, true, true, false, true, true, false, false] _ _
                refine wpAnyH_ready (rs := [3]) (by kernel_rfl) (by simp) ?_
                refine AllReadyH.cons rfl (fun K hK => ?_) AllReadyH.nil
                simp only [List.getElem_toArray, List.getElem_cons_succ, List.getElem_cons_zero]
                refine (if_pos (by kernel_rfl)).mpr ?_
                go_wp2_with fail
                refine (HRC.out _ _ _ (HMV10.out.keep hHeld3)).mono ?_
                rintro e wx3 ⟨a3, k3, rfl, hown1, hfx3⟩
                dsimp only
                have HO0' := Lib.hid (DV.keep HO0.out hfx3)
                clear HO0
                have HO0 := HO0'
                clear HO0'
                have HZ0' := Lib.hid (hfx3.keep HZ0.out (fun h => h))
                clear HZ0
                have HZ0 := HZ0'
                clear HZ0'
                have HZ1' := Lib.hid (hfx3.keep HZ1.out (fun h => h))
                clear HZ1
                have HZ1 := HZ1'
                clear HZ1'
                have HO1 := Lib.hid hown1
                clear hown1
                have HB0' : Hid (pA9 < wx3.heap.size) := Lib.hid (Bk.lt HZ0.out)
                clear HB0
                have HB0 := HB0'
                clear HB0'
                have HB1' : Hid (pB9 < wx3.heap.size) := Lib.hid (Bk.lt HZ1.out)
                clear HB1
                have HB1 := HB1'
                clear HB1'
                refine hK.out _ _ (hHeld3.then0 hfx3) (fun hHeld4 => ?_)
                clear hK K hHeld3
                clear hfx3
                change wpAnyH _ _ _ _ _ 2 #[true, true, true, true, true, true, false, false] _ _
                refine wpAnyH_ready (rs := [6]) (by kernel_rfl) (by simp) ?_
                refine AllReadyH.cons rfl (fun K hK => ?_) AllReadyH.nil
                simp only [List.getElem_toArray, List.getElem_cons_succ, List.getElem_cons_zero]
                refine (if_pos (by kernel_rfl)).mpr ?_
                refine wp_store_row 39 _ _ rfl pA9 (dval d s3 n3 c3 m3) rfl rfl 39 DZ HZ0.out (HID.out _ _ _ _ _) rfl (HDO.out _ _ _ _ _) ?_
                have hfx4 := Fr.row1 wx3 pA9 (dval d s3 n3 c3 m3)
                have HO0' := Lib.hid (DV.past HO0.out HOK.out hfx4 HZ0.out DZ_no)
                clear HO0
                have HO0 := HO0'
                clear HO0'
                have HZ1' := Lib.hid ((show Bk (wx3.setRow pA9 (dval d s3 n3 c3 m3)) pB9 RZ 24 from ArrKit.Bk.rowOther HZ1.out _ (HPQ.out.symm)))
                clear HZ1
                have HZ1 := HZ1'
                clear HZ1'
                have HO1' := Lib.hid (RV.past HO1.out hfx4 (show Bk _ _ (dval ⟨[], [], 0, false⟩ none 0 none 0) 39 from HZ0.out))
                clear HO1
                have HO1 := HO1'
                clear HO1'
                have HX0' : Hid (Bk (wx3.setRow pA9 (dval d s3 n3 c3 m3)) pA9 (dval d s3 n3 c3 m3) 39) := Lib.hid (ArrKit.Bk.row HZ0.out _)
                clear HZ0
                have HZ0 := HX0'
                clear HX0'
                refine hK.out _ _ (ArrKit.Fr.row hHeld4 _ _ (.inl HLO0.out)) (fun hHeld5 => ?_)
                clear hK K hHeld4
                clear hfx4
                generalize (wx3.setRow pA9 (dval d s3 n3 c3 m3)) = wx4 at *
                change wpAnyH _ _ _ _ _ 1 #[true, true, true, true, true, true, true, false] _ _
                refine wpAnyH_ready (rs := [7]) (by kernel_rfl) (by simp) ?_
                refine AllReadyH.cons rfl (fun K hK => ?_) AllReadyH.nil
                simp only [List.getElem_toArray, List.getElem_cons_succ, List.getElem_cons_zero]
                refine (if_pos (by kernel_rfl)).mpr ?_
                refine wp_store_row 24 _ _ rfl pB9 (rval M a3 k3) rfl rfl 24 RZ HZ1.out (HIR.out _ _ _) rfl (HRO.out _ _ _) ?_
                have hfx5 := Fr.row1 wx4 pB9 (rval M a3 k3)
                have HO0' := Lib.hid (DV_past HO0.out HOK.out hfx5 HZ1.out (rc_no 0 none 0 0))
                clear HO0
                have HO0 := HO0'
                clear HO0'
                have HZ0' := Lib.hid ((show Bk (wx4.setRow pB9 (rval M a3 k3)) pA9 (dval d s3 n3 c3 m3) 39 from ArrKit.Bk.rowOther HZ0.out _ (HPQ.out)))
                clear HZ0
                have HZ0 := HZ0'
                clear HZ0'
                have HO1' := Lib.hid (RV.pastR HO1.out hfx5 HZ1.out)
                clear HO1
                have HO1 := HO1'
                clear HO1'
                have HX1' : Hid (Bk (wx4.setRow pB9 (rval M a3 k3)) pB9 (rval M a3 k3) 24) := Lib.hid (ArrKit.Bk.row HZ1.out _)
                clear HZ1
                have HZ1 := HX1'
                clear HX1'
                refine hK.out _ _ (ArrKit.Fr.row hHeld5 _ _ (.inl HLO1.out)) (fun hHeld6 => ?_)
                clear hK K hHeld5
                clear hfx5
                generalize (wx4.setRow pB9 (rval M a3 k3)) = wx5 at *
                change wpAnyH _ _ _ _ _ 0 #[true, true, true, true, true, true, true, true] _ _
                refine wpAnyH_done (by kernel_rfl) ?_ _
                refine NoPanic.normal ?_
                have HEND := Lib.hid hHeld6
                clear hHeld6
                exact HREST2.out wx5 pA9 pB9 s3 n3 c3 m3 a3 k3 HEND.out ⟨HZ0.out, HO0.out⟩ HZ1.out HO1.out HPQ.out HLO0.out HLO1.out
            · simp only [List.getElem_toArray, List.getElem_cons_succ, List.getElem_cons_zero]
              refine (if_pos (by kernel_rfl)).mpr ?_
              go_wp2_with fail
              have hfx1 : Fr (fun _ => False) wx0 (wx0.alloc (.cells RZ 24)) := Fr.alloc (Fr.refl _ _) _
              have HLO1 : Hid (w10.heap.size ≤ wx0.heap.size) := Lib.hid (Fr.size hHeld1)
              have HO0' := Lib.hid (DV.keep HO0.out hfx1)
              clear HO0
              have HO0 := HO0'
              clear HO0'
              have HZ1 : Hid (Bk (wx0.alloc (.cells RZ 24)) wx0.heap.size RZ 24) := Lib.hid (Bk.new wx0 _)
              have HB1 : Hid (wx0.heap.size < (wx0.alloc (.cells RZ 24)).heap.size) := Lib.hid (Bk.lt HZ1.out)
              refine hK.out _ _ (hHeld1.then0 hfx1) (fun hHeld2 => ?_)
              clear hK K hHeld1
              clear hfx1
              generalize wx0.heap.size = pB9 at *
              generalize (wx0.alloc (.cells RZ 24)) = wx1 at *
              change wpAnyH _ _ _ _ _ 4 #[true, true, true, false, false, true, false, false] _ _
              refine wpAnyH_ready (rs := [3, 4]) (by kernel_rfl) (by simp) ?_
              refine AllReadyH.cons rfl (fun K hK => ?_) (AllReadyH.cons rfl (fun K hK => ?_) (AllReadyH.nil))
              · simp only [List.getElem_toArray, List.getElem_cons_succ, List.getElem_cons_zero]
                refine (if_pos (by kernel_rfl)).mpr ?_
                go_wp2_with fail
                refine (HRC.out _ _ _ (HMV10.out.keep hHeld2)).mono ?_
                rintro e wx2 ⟨a3, k3, rfl, hown1, hfx2⟩
                dsimp only
                have HO0' := Lib.hid (DV.keep HO0.out hfx2)
                clear HO0
                have HO0 := HO0'
                clear HO0'
                have HZ1' := Lib.hid (hfx2.keep HZ1.out (fun h => h))
                clear HZ1
                have HZ1 := HZ1'
                clear HZ1'
                have HO1 := Lib.hid hown1
                clear hown1
                have HB1' : Hid (pB9 < wx2.heap.size) := Lib.hid (Bk.lt HZ1.out)
                clear HB1
                have HB1 := HB1'
                clear HB1'
                refine hK.out _ _ (hHeld2.then0 hfx2) (fun hHeld3 => ?_)
                clear hK K hHeld2
                clear hfx2
                change wpAnyH _ _ _ _ _ 3 #[true, true, true, true, false, true, false, false] _ _
                refine wpAnyH_ready (rs := [4]) (by kernel_rfl) (by simp) ?_
                refine AllReadyH.cons rfl (fun K hK => ?_) AllReadyH.nil
                simp only [List.getElem_toArray, List.getElem_cons_succ, List.getElem_cons_zero]
                refine (if_pos (by kernel_rfl)).mpr ?_
                go_wp2_with fail
                have hfx3 : Fr (fun _ => False) wx2 (wx2.alloc (.cells DZ 39)) := Fr.alloc (Fr.refl _ _) _
                have HLO0 : Hid (w10.heap.size ≤ wx2.heap.size) := Lib.hid (Fr.size hHeld3)
                have HPQ : Hid (wx2.heap.size ≠ pB9) := Lib.hid (by have h1 := Bk.lt HZ1.out; omega)
                have HO0' := Lib.hid (DV.keep HO0.out hfx3)
                clear HO0
                have HO0 := HO0'
                clear HO0'
                have HZ1' := Lib.hid (hfx3.keep HZ1.out (fun h => h))
                clear HZ1
                have HZ1 := HZ1'
                clear HZ1'
                have HO1' := Lib.hid (RV.keep HO1.out hfx3)
                clear HO1
                have HO1 := HO1'
                clear HO1'
                have HZ0 : Hid (Bk (wx2.alloc (.cells DZ 39)) wx2.heap.size DZ 39) := Lib.hid (Bk.new wx2 _)
                have HB0 : Hid (wx2.heap.size < (wx2.alloc (.cells DZ 39)).heap.size) := Lib.hid (Bk.lt HZ0.out)
                have HB1' : Hid (pB9 < (wx2.alloc (.cells DZ 39)).heap.size) := Lib.hid (Bk.lt HZ1.out)
                clear HB1
                have HB1 := HB1'
                clear HB1'
                refine hK.out _ _ (hHeld3.then0 hfx3) (fun hHeld4 => ?_)
                clear hK K hHeld3
                clear hfx3
                generalize wx2.heap.size = pA9 at *
                generalize (wx2.alloc (.cells DZ 39)) = wx3 at *
                change wpAnyH _ _ _ _ _ 2 #[true, true, true, true, true, true, false, false] _ _
                refine wpAnyH_ready (rs := [6]) (by kernel_rfl) (by simp) ?_
                refine AllReadyH.cons rfl (fun K hK => ?_) AllReadyH.nil
                simp only [List.getElem_toArray, List.getElem_cons_succ, List.getElem_cons_zero]
                refine (if_pos (by kernel_rfl)).mpr ?_
                refine wp_store_row 39 _ _ rfl pA9 (dval d s3 n3 c3 m3) rfl rfl 39 DZ HZ0.out (HID.out _ _ _ _ _) rfl (HDO.out _ _ _ _ _) ?_
                have hfx4 := Fr.row1 wx3 pA9 (dval d s3 n3 c3 m3)
                have HO0' := Lib.hid (DV.past HO0.out HOK.out hfx4 HZ0.out DZ_no)
                clear HO0
                have HO0 := HO0'
                clear HO0'
                have HZ1' := Lib.hid ((show Bk (wx3.setRow pA9 (dval d s3 n3 c3 m3)) pB9 RZ 24 from ArrKit.Bk.rowOther HZ1.out _ (HPQ.out.symm)))
                clear HZ1
                have HZ1 := HZ1'
                clear HZ1'
                have HO1' := Lib.hid (RV.past HO1.out hfx4 (show Bk _ _ (dval ⟨[], [], 0, false⟩ none 0 none 0) 39 from HZ0.out))
                clear HO1
                have HO1 := HO1'
                clear HO1'
                have HX0' : Hid (Bk (wx3.setRow pA9 (dval d s3 n3 c3 m3)) pA9 (dval d s3 n3 c3 m3) 39) := Lib.hid (ArrKit.Bk.row HZ0.out _)
                clear HZ0
                have HZ0 := HX0'
                clear HX0'
                refine hK.out _ _ (ArrKit.Fr.row hHeld4 _ _ (.inl HLO0.out)) (fun hHeld5 => ?_)
                clear hK K hHeld4
                clear hfx4
                generalize (wx3.setRow pA9 (dval d s3 n3 c3 m3)) = wx4 at *
                change wpAnyH _ _ _ _ _ 1 #[true, true, true, true, true, true, true, false] _ _
                refine wpAnyH_ready (rs := [7]) (by kernel_rfl) (by simp) ?_
                refine AllReadyH.cons rfl (fun K hK => ?_) AllReadyH.nil
                simp only [List.getElem_toArray, List.getElem_cons_succ, List.getElem_cons_zero]
                refine (if_pos (by kernel_rfl)).mpr ?_
                refine wp_store_row 24 _ _ rfl pB9 (rval M a3 k3) rfl rfl 24 RZ HZ1.out (HIR.out _ _ _) rfl (HRO.out _ _ _) ?_
                have hfx5 := Fr.row1 wx4 pB9 (rval M a3 k3)
                have HO0' := Lib.hid (DV_past HO0.out HOK.out hfx5 HZ1.out (rc_no 0 none 0 0))
                clear HO0
                have HO0 := HO0'
                clear HO0'
                have HO1' := Lib.hid (RV.pastR HO1.out hfx5 HZ1.out)
                clear HO1
                have HO1 := HO1'
                clear HO1'
                have HZ0' := Lib.hid ((show Bk (wx4.setRow pB9 (rval M a3 k3)) pA9 (dval d s3 n3 c3 m3) 39 from ArrKit.Bk.rowOther HZ0.out _ (HPQ.out)))
                clear HZ0
                have HZ0 := HZ0'
                clear HZ0'
                have HX1' : Hid (Bk (wx4.setRow pB9 (rval M a3 k3)) pB9 (rval M a3 k3) 24) := Lib.hid (ArrKit.Bk.row HZ1.out _)
                clear HZ1
                have HZ1 := HX1'
                clear HX1'
                refine hK.out _ _ (ArrKit.Fr.row hHeld5 _ _ (.inl HLO1.out)) (fun hHeld6 => ?_)
                clear hK K hHeld5
                clear hfx5
                generalize (wx4.setRow pB9 (rval M a3 k3)) = wx5 at *
                change wpAnyH _ _ _ _ _ 0 #[true, true, true, true, true, true, true, true] _ _
                refine wpAnyH_done (by kernel_rfl) ?_ _
                refine NoPanic.normal ?_
                have HEND := Lib.hid hHeld6
                clear hHeld6
                exact HREST2.out wx5 pA9 pB9 s3 n3 c3 m3 a3 k3 HEND.out ⟨HZ0.out, HO0.out⟩ HZ1.out HO1.out HPQ.out HLO0.out HLO1.out
              · simp only [List.getElem_toArray, List.getElem_cons_succ, List.getElem_cons_zero]
                refine (if_pos (by kernel_rfl)).mpr ?_
                go_wp2_with fail
                have hfx2 : Fr (fun _ => False) wx1 (wx1.alloc (.cells DZ 39)) := Fr.alloc (Fr.refl _ _) _
                have HLO0 : Hid (w10.heap.size ≤ wx1.heap.size) := Lib.hid (Fr.size hHeld2)
                have HPQ : Hid (wx1.heap.size ≠ pB9) := Lib.hid (by have h1 := Bk.lt HZ1.out; omega)
                have HO0' := Lib.hid (DV.keep HO0.out hfx2)
                clear HO0
                have HO0 := HO0'
                clear HO0'
                have HZ1' := Lib.hid (hfx2.keep HZ1.out (fun h => h))
                clear HZ1
                have HZ1 := HZ1'
                clear HZ1'
                have HZ0 : Hid (Bk (wx1.alloc (.cells DZ 39)) wx1.heap.size DZ 39) := Lib.hid (Bk.new wx1 _)
                have HB0 : Hid (wx1.heap.size < (wx1.alloc (.cells DZ 39)).heap.size) := Lib.hid (Bk.lt HZ0.out)
                have HB1' : Hid (pB9 < (wx1.alloc (.cells DZ 39)).heap.size) := Lib.hid (Bk.lt HZ1.out)
                clear HB1
                have HB1 := HB1'
                clear HB1'
                refine hK.out _ _ (hHeld2.then0 hfx2) (fun hHeld3 => ?_)
                clear hK K hHeld2
                clear hfx2
                generalize wx1.heap.size = pA9 at *
                generalize (wx1.alloc (.cells DZ 39)) = wx2 at *
                change wpAnyH _ _ _ _ _ 3 #[true, true, true, false, true, true, false, false] _ _
                refine wpAnyH_ready (rs := [3]) (by kernel_rfl) (by simp) ?_
                refine AllReadyH.cons rfl (fun K hK => ?_) AllReadyH.nil
                simp only [List.getElem_toArray, List.getElem_cons_succ, List.getElem_cons_zero]
                refine (if_pos (by kernel_rfl)).mpr ?_
                go_wp2_with fail
                refine (HRC.out _ _ _ (HMV10.out.keep hHeld3)).mono ?_
                rintro e wx3 ⟨a3, k3, rfl, hown1, hfx3⟩
                dsimp only
                have HO0' := Lib.hid (DV.keep HO0.out hfx3)
                clear HO0
                have HO0 := HO0'
                clear HO0'
                have HZ1' := Lib.hid (hfx3.keep HZ1.out (fun h => h))
                clear HZ1
                have HZ1 := HZ1'
                clear HZ1'
                have HZ0' := Lib.hid (hfx3.keep HZ0.out (fun h => h))
                clear HZ0
                have HZ0 := HZ0'
                clear HZ0'
                have HO1 := Lib.hid hown1
                clear hown1
                have HB0' : Hid (pA9 < wx3.heap.size) := Lib.hid (Bk.lt HZ0.out)
                clear HB0
                have HB0 := HB0'
                clear HB0'
                have HB1' : Hid (pB9 < wx3.heap.size) := Lib.hid (Bk.lt HZ1.out)
                clear HB1
                have HB1 := HB1'
                clear HB1'
                refine hK.out _ _ (hHeld3.then0 hfx3) (fun hHeld4 => ?_)
                clear hK K hHeld3
                clear hfx3
                change wpAnyH _ _ _ _ _ 2 #[true, true, true, true, true, true, false, false] _ _
                refine wpAnyH_ready (rs := [6]) (by kernel_rfl) (by simp) ?_
                refine AllReadyH.cons rfl (fun K hK => ?_) AllReadyH.nil
                simp only [List.getElem_toArray, List.getElem_cons_succ, List.getElem_cons_zero]
                refine (if_pos (by kernel_rfl)).mpr ?_
                refine wp_store_row 39 _ _ rfl pA9 (dval d s3 n3 c3 m3) rfl rfl 39 DZ HZ0.out (HID.out _ _ _ _ _) rfl (HDO.out _ _ _ _ _) ?_
                have hfx4 := Fr.row1 wx3 pA9 (dval d s3 n3 c3 m3)
                have HO0' := Lib.hid (DV.past HO0.out HOK.out hfx4 HZ0.out DZ_no)
                clear HO0
                have HO0 := HO0'
                clear HO0'
                have HZ1' := Lib.hid ((show Bk (wx3.setRow pA9 (dval d s3 n3 c3 m3)) pB9 RZ 24 from ArrKit.Bk.rowOther HZ1.out _ (HPQ.out.symm)))
                clear HZ1
                have HZ1 := HZ1'
                clear HZ1'
                have HO1' := Lib.hid (RV.past HO1.out hfx4 (show Bk _ _ (dval ⟨[], [], 0, false⟩ none 0 none 0) 39 from HZ0.out))
                clear HO1
                have HO1 := HO1'
                clear HO1'
                have HX0' : Hid (Bk (wx3.setRow pA9 (dval d s3 n3 c3 m3)) pA9 (dval d s3 n3 c3 m3) 39) := Lib.hid (ArrKit.Bk.row HZ0.out _)
                clear HZ0
                have HZ0 := HX0'
                clear HX0'
                refine hK.out _ _ (ArrKit.Fr.row hHeld4 _ _ (.inl HLO0.out)) (fun hHeld5 => ?_)
                clear hK K hHeld4
                clear hfx4
                generalize (wx3.setRow pA9 (dval d s3 n3 c3 m3)) = wx4 at *
                change wpAnyH _ _ _ _ _ 1 #[true, true, true, true, true, true, true, false] _ _
                refine wpAnyH_ready (rs := [7]) (by kernel_rfl) (by simp) ?_
                refine AllReadyH.cons rfl (fun K hK => ?_) AllReadyH.nil
                simp only [List.getElem_toArray, List.getElem_cons_succ, List.getElem_cons_zero]
                refine (if_pos (by kernel_rfl)).mpr ?_
                refine wp_store_row 24 _ _ rfl pB9 (rval M a3 k3) rfl rfl 24 RZ HZ1.out (HIR.out _ _ _) rfl (HRO.out _ _ _) ?_
                have hfx5 := Fr.row1 wx4 pB9 (rval M a3 k3)
                have HO0' := Lib.hid (DV_past HO0.out HOK.out hfx5 HZ1.out (rc_no 0 none 0 0))
                clear HO0
                have HO0 := HO0'
                clear HO0'
                have HZ0' := Lib.hid ((show Bk (wx4.setRow pB9 (rval M a3 k3)) pA9 (dval d s3 n3 c3 m3) 39 from ArrKit.Bk.rowOther HZ0.out _ (HPQ.out)))
                clear HZ0
                have HZ0 := HZ0'
                clear HZ0'
                have HO1' := Lib.hid (RV.pastR HO1.out hfx5 HZ1.out)
                clear HO1
                have HO1 := HO1'
                clear HO1'
                have HX1' : Hid (Bk (wx4.setRow pB9 (rval M a3 k3)) pB9 (rval M a3 k3) 24) := Lib.hid (ArrKit.Bk.row HZ1.out _)
                clear HZ1
                have HZ1 := HX1'
                clear HX1'
                refine hK.out _ _ (ArrKit.Fr.row hHeld5 _ _ (.inl HLO1.out)) (fun hHeld6 => ?_)
                clear hK K hHeld5
                clear hfx5
                generalize (wx4.setRow pB9 (rval M a3 k3)) = wx5 at *
                change wpAnyH _ _ _ _ _ 0 #[true, true, true, true, true, true, true, true] _ _
                refine wpAnyH_done (by kernel_rfl) ?_ _
                refine NoPanic.normal ?_
                have HEND := Lib.hid hHeld6
                clear hHeld6
                exact HREST2.out wx5 pA9 pB9 s3 n3 c3 m3 a3 k3 HEND.out ⟨HZ0.out, HO0.out⟩ HZ1.out HO1.out HPQ.out HLO0.out HLO1.out
          · simp only [List.getElem_toArray, List.getElem_cons_succ, List.getElem_cons_zero]
            refine (if_pos (by kernel_rfl)).mpr ?_
            go_wp2_with fail
            have hfx0 : Fr (fun _ => False) wd (wd.alloc (.cells DZ 39)) := Fr.alloc (Fr.refl _ _) _
            have HLO0 : Hid (w10.heap.size ≤ wd.heap.size) := Lib.hid (Fr.size hHeld0)
            have HZ0 : Hid (Bk (wd.alloc (.cells DZ 39)) wd.heap.size DZ 39) := Lib.hid (Bk.new wd _)
            have HB0 : Hid (wd.heap.size < (wd.alloc (.cells DZ 39)).heap.size) := Lib.hid (Bk.lt HZ0.out)
            refine hK.out _ _ (hHeld0.then0 hfx0) (fun hHeld1 => ?_)
            clear hK K hHeld0
            clear hfx0
            generalize wd.heap.size = pA9 at *
            generalize (wd.alloc (.cells DZ 39)) = wx0 at *
            change wpAnyH _ _ _ _ _ 5 #[true, false, true, false, true, false, false, false] _ _
            refine wpAnyH_ready (rs := [1, 5]) (by kernel_rfl) (by simp) ?_
            refine AllReadyH.cons rfl (fun K hK => ?_) (AllReadyH.cons rfl (fun K hK => ?_) (AllReadyH.nil))
            · simp only [List.getElem_toArray, List.getElem_cons_succ, List.getElem_cons_zero]
              refine (if_pos (by kernel_rfl)).mpr ?_
              go_wp2_with fail
              refine (HDC.out _ _ _ _ _ (HV10.out.keep hHeld1)).mono ?_
              rintro e wx1 ⟨s3, n3, c3, m3, rfl, hown0, hfx1⟩
              dsimp only
              have HZ0' := Lib.hid (hfx1.keep HZ0.out (fun h => h))
              clear HZ0
              have HZ0 := HZ0'
              clear HZ0'
              have HO0 := Lib.hid hown0
              clear hown0
              have HB0' : Hid (pA9 < wx1.heap.size) := Lib.hid (Bk.lt HZ0.out)
              clear HB0
              have HB0 := HB0'
              clear HB0'
              refine hK.out _ _ (hHeld1.then0 hfx1) (fun hHeld2 => ?_)
              clear hK K hHeld1
              clear hfx1
              change wpAnyH _ _ _ _ _ 4 #[true, true, true, false, true, false, false, false] _ _
              refine wpAnyH_ready (rs := [3, 5]) (by kernel_rfl) (by simp) ?_
              refine AllReadyH.cons rfl (fun K hK => ?_) (AllReadyH.cons rfl (fun K hK => ?_) (AllReadyH.nil))
              · simp only [List.getElem_toArray, List.getElem_cons_succ, List.getElem_cons_zero]
                refine (if_pos (by kernel_rfl)).mpr ?_
                go_wp2_with fail
                refine (HRC.out _ _ _ (HMV10.out.keep hHeld2)).mono ?_
                rintro e wx2 ⟨a3, k3, rfl, hown1, hfx2⟩
                dsimp only
                have HZ0' := Lib.hid (hfx2.keep HZ0.out (fun h => h))
                clear HZ0
                have HZ0 := HZ0'
                clear HZ0'
                have HO0' := Lib.hid (DV.keep HO0.out hfx2)
                clear HO0
                have HO0 := HO0'
                clear HO0'
                have HO1 := Lib.hid hown1
                clear hown1
                have HB0' : Hid (pA9 < wx2.heap.size) := Lib.hid (Bk.lt HZ0.out)
                clear HB0
                have HB0 := HB0'
                clear HB0'
                refine hK.out _ _ (hHeld2.then0 hfx2) (fun hHeld3 => ?_)
                clear hK K hHeld2
                clear hfx2
                change wpAnyH _ _ _ _ _ 3 #[true, true, true, true, true, false, false, false] _ _
                refine wpAnyH_ready (rs := [5]) (by kernel_rfl) (by simp) ?_
                refine AllReadyH.cons rfl (fun K hK => ?_) AllReadyH.nil
                simp only [List.getElem_toArray, List.getElem_cons_succ, List.getElem_cons_zero]
                refine (if_pos (by kernel_rfl)).mpr ?_
                go_wp2_with fail
                have hfx3 : Fr (fun _ => False) wx2 (wx2.alloc (.cells RZ 24)) := Fr.alloc (Fr.refl _ _) _
                have HLO1 : Hid (w10.heap.size ≤ wx2.heap.size) := Lib.hid (Fr.size hHeld3)
                have HPQ : Hid (pA9 ≠ wx2.heap.size) := Lib.hid (by have h1 := Bk.lt HZ0.out; omega)
                have HZ0' := Lib.hid (hfx3.keep HZ0.out (fun h => h))
                clear HZ0
                have HZ0 := HZ0'
                clear HZ0'
                have HO0' := Lib.hid (DV.keep HO0.out hfx3)
                clear HO0
                have HO0 := HO0'
                clear HO0'
                have HO1' := Lib.hid (RV.keep HO1.out hfx3)
                clear HO1
                have HO1 := HO1'
                clear HO1'
                have HZ1 : Hid (Bk (wx2.alloc (.cells RZ 24)) wx2.heap.size RZ 24) := Lib.hid (Bk.new wx2 _)
                have HB1 : Hid (wx2.heap.size < (wx2.alloc (.cells RZ 24)).heap.size) := Lib.hid (Bk.lt HZ1.out)
                have HB0' : Hid (pA9 < (wx2.alloc (.cells RZ 24)).heap.size) := Lib.hid (Bk.lt HZ0.out)
                clear HB0
                have HB0 := HB0'
                clear HB0'
                refine hK.out _ _ (hHeld3.then0 hfx3) (fun hHeld4 => ?_)
                clear hK K hHeld3
                clear hfx3
                generalize wx2.heap.size = pB9 at *
                generalize (wx2.alloc (.cells RZ 24)) = wx3 at *
                change wpAnyH _ _ _ _ _ 2 #[true, true, true, true, true, true, false, false] _ _
                refine wpAnyH_ready (rs := [6]) (by kernel_rfl) (by simp) ?_
                refine AllReadyH.cons rfl (fun K hK => ?_) AllReadyH.nil
                simp only [List.getElem_toArray, List.getElem_cons_succ, List.getElem_cons_zero]
                refine (if_pos (by kernel_rfl)).mpr ?_
                refine wp_store_row 39 _ _ rfl pA9 (dval d s3 n3 c3 m3) rfl rfl 39 DZ HZ0.out (HID.out _ _ _ _ _) rfl (HDO.out _ _ _ _ _) ?_
                have hfx4 := Fr.row1 wx3 pA9 (dval d s3 n3 c3 m3)
                have HO0' := Lib.hid (DV.past HO0.out HOK.out hfx4 HZ0.out DZ_no)
                clear HO0
                have HO0 := HO0'
                clear HO0'
                have HO1' := Lib.hid (RV.past HO1.out hfx4 (show Bk _ _ (dval ⟨[], [], 0, false⟩ none 0 none 0) 39 from HZ0.out))
                clear HO1
                have HO1 := HO1'
                clear HO1'
                have HZ1' := Lib.hid ((show Bk (wx3.setRow pA9 (dval d s3 n3 c3 m3)) pB9 RZ 24 from ArrKit.Bk.rowOther HZ1.out _ (HPQ.out.symm)))
                clear HZ1
                have HZ1 := HZ1'
                clear HZ1'
                have HX0' : Hid (Bk (wx3.setRow pA9 (dval d s3 n3 c3 m3)) pA9 (dval d s3 n3 c3 m3) 39) := Lib.hid (ArrKit.Bk.row HZ0.out _)
                clear HZ0
                have HZ0 := HX0'
                clear HX0'
                refine hK.out _ _ (ArrKit.Fr.row hHeld4 _ _ (.inl HLO0.out)) (fun hHeld5 => ?_)
                clear hK K hHeld4
                clear hfx4
                generalize (wx3.setRow pA9 (dval d s3 n3 c3 m3)) = wx4 at *
                change wpAnyH _ _ _ _ _ 1 #[true, true, true, true, true, true, true, false] _ _
                refine wpAnyH_ready (rs := [7]) (by kernel_rfl) (by simp) ?_
                refine AllReadyH.cons rfl (fun K hK => ?_) AllReadyH.nil
                simp only [List.getElem_toArray, List.getElem_cons_succ, List.getElem_cons_zero]
                refine (if_pos (by kernel_rfl)).mpr ?_
                refine wp_store_row 24 _ _ rfl pB9 (rval M a3 k3) rfl rfl 24 RZ HZ1.out (HIR.out _ _ _) rfl (HRO.out _ _ _) ?_
                have hfx5 := Fr.row1 wx4 pB9 (rval M a3 k3)
                have HZ0' := Lib.hid ((show Bk (wx4.setRow pB9 (rval M a3 k3)) pA9 (dval d s3 n3 c3 m3) 39 from ArrKit.Bk.rowOther HZ0.out _ (HPQ.out)))
                clear HZ0
                have HZ0 := HZ0'
                clear HZ0'
                have HO0' := Lib.hid (DV_past HO0.out HOK.out hfx5 HZ1.out (rc_no 0 none 0 0))
                clear HO0
                have HO0 := HO0'
                clear HO0'
                have HO1' := Lib.hid (RV.pastR HO1.out hfx5 HZ1.out)
                clear HO1
                have HO1 := HO1'
                clear HO1'
                have HX1' : Hid (Bk (wx4.setRow pB9 (rval M a3 k3)) pB9 (rval M a3 k3) 24) := Lib.hid (ArrKit.Bk.row HZ1.out _)
                clear HZ1
                have HZ1 := HX1'
                clear HX1'
                refine hK.out _ _ (ArrKit.Fr.row hHeld5 _ _ (.inl HLO1.out)) (fun hHeld6 => ?_)
                clear hK K hHeld5
                clear hfx5
                generalize (wx4.setRow pB9 (rval M a3 k3)) = wx5 at *
                change wpAnyH _ _ _ _ _ 0 #[true, true, true, true, true, true, true, true] _ _
                refine wpAnyH_done (by kernel_rfl) ?_ _
                refine NoPanic.normal ?_
                have HEND := Lib.hid hHeld6
                clear hHeld6
                exact HREST2.out wx5 pA9 pB9 s3 n3 c3 m3 a3 k3 HEND.out ⟨HZ0.out, HO0.out⟩ HZ1.out HO1.out HPQ.out HLO0.out HLO1.out
              · simp only [List.getElem_toArray, List.getElem_cons_succ, List.getElem_cons_zero]
                refine (if_pos (by kernel_rfl)).mpr ?_
                go_wp2_with fail
                have hfx2 : Fr (fun _ => False) wx1 (wx1.alloc (.cells RZ 24)) := Fr.alloc (Fr.refl _ _) _
                have HLO1 : Hid (w10.heap.size ≤ wx1.heap.size) := Lib.hid (Fr.size hHeld2)
                have HPQ : Hid (pA9 ≠ wx1.heap.size) := Lib.hid (by have h1 := Bk.lt HZ0.out; omega)
                have HZ0' := Lib.hid (hfx2.keep HZ0.out (fun h => h))
                clear HZ0
                have HZ0 := HZ0'
                clear HZ0'
                have HO0' := Lib.hid (DV.keep HO0.out hfx2)
                clear HO0
                have HO0 := HO0'
                clear HO0'
                have HZ1 : Hid (Bk (wx1.alloc (.cells RZ 24)) wx1.heap.size RZ 24) := Lib.hid (Bk.new wx1 _)
                have HB1 : Hid (wx1.heap.size < (wx1.alloc (.cells RZ 24)).heap.size) := Lib.hid (Bk.lt HZ1.out)
                have HB0' : Hid (pA9 < (wx1.alloc (.cells RZ 24)).heap.size) := Lib.hid (Bk.lt HZ0.out)
                clear HB0
                have HB0 := HB0'
                clear HB0'
                refine hK.out _ _ (hHeld2.then0 hfx2) (fun hHeld3 => ?_)
                clear hK K hHeld2
                clear hfx2
                generalize wx1.heap.size = pB9 at *
                generalize (wx1.alloc (.cells RZ 24)) = wx2 at *
                change wpAnyH _ _ _ _ _ 3 #[true, true, true, false, true, true, false, false] _ _
                refine wpAnyH_ready (rs := [3]) (by kernel_rfl) (by simp) ?_
                refine AllReadyH.cons rfl (fun K hK => ?_) AllReadyH.nil
                simp only [List.getElem_toArray, List.getElem_cons_succ, List.getElem_cons_zero]
                refine (if_pos (by kernel_rfl)).mpr ?_
                go_wp2_with fail
                refine (HRC.out _ _ _ (HMV10.out.keep hHeld3)).mono ?_
                rintro e wx3 ⟨a3, k3, rfl, hown1, hfx3⟩
                dsimp only
                have HZ0' := Lib.hid (hfx3.keep HZ0.out (fun h => h))
                clear HZ0
                have HZ0 := HZ0'
                clear HZ0'
                have HO0' := Lib.hid (DV.keep HO0.out hfx3)
                clear HO0
                have HO0 := HO0'
                clear HO0'
                have HZ1' := Lib.hid (hfx3.keep HZ1.out (fun h => h))
                clear HZ1
                have HZ1 := HZ1'
                clear HZ1'
                have HO1 := Lib.hid hown1
                clear hown1
                have HB0' : Hid (pA9 < wx3.heap.size) := Lib.hid (Bk.lt HZ0.out)
                clear HB0
                have HB0 := HB0'
                clear HB0'
                have HB1' : Hid (pB9 < wx3.heap.size) := Lib.hid (Bk.lt HZ1.out)
                clear HB1
                have HB1 := HB1'
                clear HB1'
                refine hK.out _ _ (hHeld3.then0 hfx3) (fun hHeld4 => ?_)
                clear hK K hHeld3
                clear hfx3
                change wpAnyH _ _ _ _ _ 2 #[true, true, true, true, true, true, false, false] _ _
                refine wpAnyH_ready (rs := [6]) (by kernel_rfl) (by simp) ?_
                refine AllReadyH.cons rfl (fun K hK => ?_) AllReadyH.nil
                simp only [List.getElem_toArray, List.getElem_cons_succ, List.getElem_cons_zero]
                refine (if_pos (by kernel_rfl)).mpr ?_
                refine wp_store_row 39 _ _ rfl pA9 (dval d s3 n3 c3 m3) rfl rfl 39 DZ HZ0.out (HID.out _ _ _ _ _) rfl (HDO.out _ _ _ _ _) ?_
                have hfx4 := Fr.row1 wx3 pA9 (dval d s3 n3 c3 m3)
                have HO0' := Lib.hid (DV.past HO0.out HOK.out hfx4 HZ0.out DZ_no)
                clear HO0
                have HO0 := HO0'
                clear HO0'
                have HZ1' := Lib.hid ((show Bk (wx3.setRow pA9 (dval d s3 n3 c3 m3)) pB9 RZ 24 from ArrKit.Bk.rowOther HZ1.out _ (HPQ.out.symm)))
                clear HZ1
                have HZ1 := HZ1'
                clear HZ1'
                have HO1' := Lib.hid (RV.past HO1.out hfx4 (show Bk _ _ (dval ⟨[], [], 0, false⟩ none 0 none 0) 39 from HZ0.out))
                clear HO1
                have HO1 := HO1'
                clear HO1'
                have HX0' : Hid (Bk (wx3.setRow pA9 (dval d s3 n3 c3 m3)) pA9 (dval d s3 n3 c3 m3) 39) := Lib.hid (ArrKit.Bk.row HZ0.out _)
                clear HZ0
                have HZ0 := HX0'
                clear HX0'
                refine hK.out _ _ (ArrKit.Fr.row hHeld4 _ _ (.inl HLO0.out)) (fun hHeld5 => ?_)
                clear hK K hHeld4
                clear hfx4
                generalize (wx3.setRow pA9 (dval d s3 n3 c3 m3)) = wx4 at *
                change wpAnyH _ _ _ _ _ 1 #[true, true, true, true, true, true, true, false] _ _
                refine wpAnyH_ready (rs := [7]) (by kernel_rfl) (by simp) ?_
                refine AllReadyH.cons rfl (fun K hK => ?_) AllReadyH.nil
                simp only [List.getElem_toArray, List.getElem_cons_succ, List.getElem_cons_zero]
                refine (if_pos (by kernel_rfl)).mpr ?_
                refine wp_store_row 24 _ _ rfl pB9 (rval M a3 k3) rfl rfl 24 RZ HZ1.out (HIR.out _ _ _) rfl (HRO.out _ _ _) ?_
                have hfx5 := Fr.row1 wx4 pB9 (rval M a3 k3)
                have HZ0' := Lib.hid ((show Bk (wx4.setRow pB9 (rval M a3 k3)) pA9 (dval d s3 n3 c3 m3) 39 from ArrKit.Bk.rowOther HZ0.out _ (HPQ.out)))
                clear HZ0
                have HZ0 := HZ0'
                clear HZ0'
                have HO0' := Lib.hid (DV_past HO0.out HOK.out hfx5 HZ1.out (rc_no 0 none 0 0))
                clear HO0
                have HO0 := HO0'
                clear HO0'
                have HO1' := Lib.hid (RV.pastR HO1.out hfx5 HZ1.out)
                clear HO1
                have HO1 := HO1'
                clear HO1'
                have HX1' : Hid (Bk (wx4.setRow pB9 (rval M a3 k3)) pB9 (rval M a3 k3) 24) := Lib.hid (ArrKit.Bk.row HZ1.out _)
                clear HZ1
                have HZ1 := HX1'
                clear HX1'
                refine hK.out _ _ (ArrKit.Fr.row hHeld5 _ _ (.inl HLO1.out)) (fun hHeld6 => ?_)
                clear hK K hHeld5
                clear hfx5
                generalize (wx4.setRow pB9 (rval M a3 k3)) = wx5 at *
                change wpAnyH _ _ _ _ _ 0 #[true, true, true, true, true, true, true, true] _ _
                refine wpAnyH_done (by kernel_rfl) ?_ _
                refine NoPanic.normal ?_
                have HEND := Lib.hid hHeld6
                clear hHeld6
                exact HREST2.out wx5 pA9 pB9 s3 n3 c3 m3 a3 k3 HEND.out ⟨HZ0.out, HO0.out⟩ HZ1.out HO1.out HPQ.out HLO0.out HLO1.out
            · simp only [List.getElem_toArray, List.getElem_cons_succ, List.getElem_cons_zero]
              refine (if_pos (by kernel_rfl)).mpr ?_
              go_wp2_with fail
              have hfx1 : Fr (fun _ => False) wx0 (wx0.alloc (.cells RZ 24)) := Fr.alloc (Fr.refl _ _) _
              have HLO1 : Hid (w10.heap.size ≤ wx0.heap.size) := Lib.hid (Fr.size hHeld1)
              have HPQ : Hid (pA9 ≠ wx0.heap.size) := Lib.hid (by have h1 := Bk.lt HZ0.out; omega)
              have HZ0' := Lib.hid (hfx1.keep HZ0.out (fun h => h))
              clear HZ0
              have HZ0 := HZ0'
              clear HZ0'
              have HZ1 : Hid (Bk (wx0.alloc (.cells RZ 24)) wx0.heap.size RZ 24) := Lib.hid (Bk.new wx0 _)
              have HB1 : Hid (wx0.heap.size < (wx0.alloc (.cells RZ 24)).heap.size) := Lib.hid (Bk.lt HZ1.out)
              have HB0' : Hid (pA9 < (wx0.alloc (.cells RZ 24)).heap.size) := Lib.hid (Bk.lt HZ0.out)
              clear HB0
              have HB0 := HB0'
              clear HB0'
              refine hK.out _ _ (hHeld1.then0 hfx1) (fun hHeld2 => ?_)
              clear hK K hHeld1
              clear hfx1
              generalize wx0.heap.size = pB9 at *
              generalize (wx0.alloc (.cells RZ 24)) = wx1 at *
              change wpAnyH _ _ _ _ _ 4 #[true, false, true, false, true, true, false, false] _ _
              refine wpAnyH_ready (rs := [1]) (by kernel_rfl) (by simp) ?_
              refine AllReadyH.cons rfl (fun K hK => ?_) AllReadyH.nil
              simp only [List.getElem_toArray, List.getElem_cons_succ, List.getElem_cons_zero]
              refine (if_pos (by kernel_rfl)).mpr ?_
              go_wp2_with fail
              refine (HDC.out _ _ _ _ _ (HV10.out.keep hHeld2)).mono ?_
              rintro e wx2 ⟨s3, n3, c3, m3, rfl, hown0, hfx2⟩
              dsimp only
              have HZ0' := Lib.hid (hfx2.keep HZ0.out (fun h => h))
              clear HZ0
              have HZ0 := HZ0'
              clear HZ0'
              have HZ1' := Lib.hid (hfx2.keep HZ1.out (fun h => h))
              clear HZ1
              have HZ1 := HZ1'
              clear HZ1'
              have HO0 := Lib.hid hown0
              clear hown0
              have HB0' : Hid (pA9 < wx2.heap.size) := Lib.hid (Bk.lt HZ0.out)
              clear HB0
              have HB0 := HB0'
              clear HB0'
              have HB1' : Hid (pB9 < wx2.heap.size) := Lib.hid (Bk.lt HZ1.out)
              clear HB1
              have HB1 := HB1'
              clear HB1'
              refine hK.out _ _ (hHeld2.then0 hfx2) (fun hHeld3 => ?_)
              clear hK K hHeld2
              clear hfx2
              change wpAnyH _ _ _ _ _ 3 #[true, true, true, false, true, true, false, false] _ _
              refine wpAnyH_ready (rs := [3]) (by kernel_rfl) (by simp) ?_
              refine AllReadyH.cons rfl (fun K hK => ?_) AllReadyH.nil
              simp only [List.getElem_toArray, List.getElem_cons_succ, List.getElem_cons_zero]
              refine (if_pos (by kernel_rfl)).mpr ?_
              go_wp2_with fail
              refine (HRC.out _ _ _ (HMV10.out.keep hHeld3)).mono ?_
              rintro e wx3 ⟨a3, k3, rfl, hown1, hfx3⟩
              dsimp only
              have HZ0' := Lib.hid (hfx3.keep HZ0.out (fun h => h))
              clear HZ0
              have HZ0 := HZ0'
              clear HZ0'
              have HZ1' := Lib.hid (hfx3.keep HZ1.out (fun h => h))
              clear HZ1
              have HZ1 := HZ1'
              clear HZ1'
              have HO0' := Lib.hid (DV.keep HO0.out hfx3)
              clear HO0
              have HO0 := HO0'
              clear HO0'
              have HO1 := Lib.hid hown1
              clear hown1
              have HB0' : Hid (pA9 < wx3.heap.size) := Lib.hid (Bk.lt HZ0.out)
              clear HB0
              have HB0 := HB0'
              clear HB0'
              have HB1' : Hid (pB9 < wx3.heap.size) := Lib.hid (Bk.lt HZ1.out)
              clear HB1
              have HB1 := HB1'
              clear HB1'
              refine hK.out _ _ (hHeld3.then0 hfx3) (fun hHeld4 => ?_)
              clear hK K hHeld3
              clear hfx3
              change wpAnyH _ _ _ _ _ 2 #[true, true, true, true, true, true, false, false] _ _
              refine wpAnyH_ready (rs := [6]) (by kernel_rfl) (by simp) ?_
              refine AllReadyH.cons rfl (fun K hK => ?_) AllReadyH.nil
              simp only [List.getElem_toArray, List.getElem_cons_succ, List.getElem_cons_zero]
              refine (if_pos (by kernel_rfl)).mpr ?_
              refine wp_store_row 39 _ _ rfl pA9 (dval d s3 n3 c3 m3) rfl rfl 39 DZ HZ0.out (HID.out _ _ _ _ _) rfl (HDO.out _ _ _ _ _) ?_
              have hfx4 := Fr.row1 wx3 pA9 (dval d s3 n3 c3 m3)
              have HZ1' := Lib.hid ((show Bk (wx3.setRow pA9 (dval d s3 n3 c3 m3)) pB9 RZ 24 from ArrKit.Bk.rowOther HZ1.out _ (HPQ.out.symm)))
              clear HZ1
              have HZ1 := HZ1'
              clear HZ1'
              have HO0' := Lib.hid (DV.past HO0.out HOK.out hfx4 HZ0.out DZ_no)
              clear HO0
              have HO0 := HO0'
              clear HO0'
              have HO1' := Lib.hid (RV.past HO1.out hfx4 (show Bk _ _ (dval ⟨[], [], 0, false⟩ none 0 none 0) 39 from HZ0.out))
              clear HO1
              have HO1 := HO1'
              clear HO1'
              have HX0' : Hid (Bk (wx3.setRow pA9 (dval d s3 n3 c3 m3)) pA9 (dval d s3 n3 c3 m3) 39) := Lib.hid (ArrKit.Bk.row HZ0.out _)
              clear HZ0
              have HZ0 := HX0'
              clear HX0'
              refine hK.out _ _ (ArrKit.Fr.row hHeld4 _ _ (.inl HLO0.out)) (fun hHeld5 => ?_)
              clear hK K hHeld4
              clear hfx4
              generalize (wx3.setRow pA9 (dval d s3 n3 c3 m3)) = wx4 at *
              change wpAnyH _ _ _ _ _ 1 #[true, true, true, true, true, true, true, false] _ _
              refine wpAnyH_ready (rs := [7]) (by kernel_rfl) (by simp) ?_
              refine AllReadyH.cons rfl (fun K hK => ?_) AllReadyH.nil
              simp only [List.getElem_toArray, List.getElem_cons_succ, List.getElem_cons_zero]
              refine (if_pos (by kernel_rfl)).mpr ?_
              refine wp_store_row 24 _ _ rfl pB9 (rval M a3 k3) rfl rfl 24 RZ HZ1.out (HIR.out _ _ _) rfl (HRO.out _ _ _) ?_
              have hfx5 := Fr.row1 wx4 pB9 (rval M a3 k3)
              have HZ0' := Lib.hid ((show Bk (wx4.setRow pB9 (rval M a3 k3)) pA9 (dval d s3 n3 c3 m3) 39 from ArrKit.Bk.rowOther HZ0.out _ (HPQ.out)))
              clear HZ0
              have HZ0 := HZ0'
              clear HZ0'
              have HO0' := Lib.hid (DV_past HO0.out HOK.out hfx5 HZ1.out (rc_no 0 none 0 0))
              clear HO0
              have HO0 := HO0'
              clear HO0'
              have HO1' := Lib.hid (RV.pastR HO1.out hfx5 HZ1.out)
              clear HO1
              have HO1 := HO1'
              clear HO1'
              have HX1' : Hid (Bk (wx4.setRow pB9 (rval M a3 k3)) pB9 (rval M a3 k3) 24) := Lib.hid (ArrKit.Bk.row HZ1.out _)
              clear HZ1
              have HZ1 := HX1'
              clear HX1'
              refine hK.out _ _ (ArrKit.Fr.row hHeld5 _ _ (.inl HLO1.out)) (fun hHeld6 => ?_)
              clear hK K hHeld5
              clear hfx5
              generalize (wx4.setRow pB9 (rval M a3 k3)) = wx5 at *
              change wpAnyH _ _ _ _ _ 0 #[true, true, true, true, true, true, true, true] _ _
              refine wpAnyH_done (by kernel_rfl) ?_ _
              refine NoPanic.normal ?_
              have HEND := Lib.hid hHeld6
              clear hHeld6
              exact HREST2.out wx5 pA9 pB9 s3 n3 c3 m3 a3 k3 HEND.out ⟨HZ0.out, HO0.out⟩ HZ1.out HO1.out HPQ.out HLO0.out HLO1.out
          · simp only [List.getElem_toArray, List.getElem_cons_succ, List.getElem_cons_zero]
            refine (if_pos (by kernel_rfl)).mpr ?_
            go_wp2_with fail
            have hfx0 : Fr (fun _ => False) wd (wd.alloc (.cells RZ 24)) := Fr.alloc (Fr.refl _ _) _
            have HLO1 : Hid (w10.heap.size ≤ wd.heap.size) := Lib.hid (Fr.size hHeld0)
            have HZ1 : Hid (Bk (wd.alloc (.cells RZ 24)) wd.heap.size RZ 24) := Lib.hid (Bk.new wd _)
            have HB1 : Hid (wd.heap.size < (wd.alloc (.cells RZ 24)).heap.size) := Lib.hid (Bk.lt HZ1.out)
            refine hK.out _ _ (hHeld0.then0 hfx0) (fun hHeld1 => ?_)
            clear hK K hHeld0
            clear hfx0
            generalize wd.heap.size = pB9 at *
            generalize (wd.alloc (.cells RZ 24)) = wx0 at *
            change wpAnyH _ _ _ _ _ 5 #[true, false, true, false, false, true, false, false] _ _
            refine wpAnyH_ready (rs := [1, 4]) (by kernel_rfl) (by simp) ?_
            refine AllReadyH.cons rfl (fun K hK => ?_) (AllReadyH.cons rfl (fun K hK => ?_) (AllReadyH.nil))
            · simp only [List.getElem_toArray, List.getElem_cons_succ, List.getElem_cons_zero]
              refine (if_pos (by kernel_rfl)).mpr ?_
              go_wp2_with fail
              refine (HDC.out _ _ _ _ _ (HV10.out.keep hHeld1)).mono ?_
              rintro e wx1 ⟨s3, n3, c3, m3, rfl, hown0, hfx1⟩
              dsimp only
              have HZ1' := Lib.hid (hfx1.keep HZ1.out (fun h => h))
              clear HZ1
              have HZ1 := HZ1'
              clear HZ1'
              have HO0 := Lib.hid hown0
              clear hown0
              have HB1' : Hid (pB9 < wx1.heap.size) := Lib.hid (Bk.lt HZ1.out)
              clear HB1
              have HB1 := HB1'
              clear HB1'
              refine hK.out _ _ (hHeld1.then0 hfx1) (fun hHeld2 => ?_)
              clear hK K hHeld1
              clear hfx1
              change wpAnyH _ _ _ _ _ 4 #[true, true, true, false, false, true, false, false] _ _
              refine wpAnyH_ready (rs := [3, 4]) (by kernel_rfl) (by simp) ?_
              refine AllReadyH.cons rfl (fun K hK => ?_) (AllReadyH.cons rfl (fun K hK => ?_) (AllReadyH.nil))
              · simp only [List.getElem_toArray, List.getElem_cons_succ, List.getElem_cons_zero]
                refine (if_pos (by kernel_rfl)).mpr ?_
                go_wp2_with fail
                refine (HRC.out _ _ _ (HMV10.out.keep hHeld2)).mono ?_
                rintro e wx2 ⟨a3, k3, rfl, hown1, hfx2⟩
                dsimp only
                have HZ1' := Lib.hid (hfx2.keep HZ1.out (fun h => h))
                clear HZ1
                have HZ1 := HZ1'
                clear HZ1'
                have HO0' := Lib.hid (DV.keep HO0.out hfx2)
                clear HO0
                have HO0 := HO0'
                clear HO0'
                have HO1 := Lib.hid hown1
                clear hown1
                have HB1' : Hid (pB9 < wx2.heap.size) := Lib.hid (Bk.lt HZ1.out)
                clear HB1
                have HB1 := HB1'
                clear HB1'
                refine hK.out _ _ (hHeld2.then0 hfx2) (fun hHeld3 => ?_)
                clear hK K hHeld2
                clear hfx2
                change wpAnyH _ _ _ _ _ 3 #[true, true, true, true, false, true, false, false] _ _
                refine wpAnyH_ready (rs := [4]) (by kernel_rfl) (by simp) ?_
                refine AllReadyH.cons rfl (fun K hK => ?_) AllReadyH.nil
                simp only [List.getElem_toArray, List.getElem_cons_succ, List.getElem_cons_zero]
                refine (if_pos (by kernel_rfl)).mpr ?_
                go_wp2_with fail
                have hfx3 : Fr (fun _ => False) wx2 (wx2.alloc (.cells DZ 39)) := Fr.alloc (Fr.refl _ _) _
                have HLO0 : Hid (w10.heap.size ≤ wx2.heap.size) := Lib.hid (Fr.size hHeld3)
                have HPQ : Hid (wx2.heap.size ≠ pB9) := Lib.hid (by have h1 := Bk.lt HZ1.out; omega)
                have HZ1' := Lib.hid (hfx3.keep HZ1.out (fun h => h))
                clear HZ1
                have HZ1 := HZ1'
                clear HZ1'
                have HO0' := Lib.hid (DV.keep HO0.out hfx3)
                clear HO0
                have HO0 := HO0'
                clear HO0'
                have HO1' := Lib.hid (RV.keep HO1.out hfx3)
                clear HO1
                have HO1 := HO1'
                clear HO1'
                have HZ0 : Hid (Bk (wx2.alloc (.cells DZ 39)) wx2.heap.size DZ 39) := Lib.hid (Bk.new wx2 _)
                have HB0 : Hid (wx2.heap.size < (wx2.alloc (.cells DZ 39)).heap.size) := Lib.hid (Bk.lt HZ0.out)
                have HB1' : Hid (pB9 < (wx2.alloc (.cells DZ 39)).heap.size) := Lib.hid (Bk.lt HZ1.out)
                clear HB1
                have HB1 := HB1'
                clear HB1'
                refine hK.out _ _ (hHeld3.then0 hfx3) (fun hHeld4 => ?_)
                clear hK K hHeld3
                clear hfx3
                generalize wx2.heap.size = pA9 at *
                generalize (wx2.alloc (.cells DZ 39)) = wx3 at *
                change wpAnyH _ _ _ _ _ 2 #[true, true, true, true, true, true, false, false] _ _
                refine wpAnyH_ready (rs := [6]) (by kernel_rfl) (by simp) ?_
                refine AllReadyH.cons rfl (fun K hK => ?_) AllReadyH.nil
                simp only [List.getElem_toArray, List.getElem_cons_succ, List.getElem_cons_zero]
                refine (if_pos (by kernel_rfl)).mpr ?_
                refine wp_store_row 39 _ _ rfl pA9 (dval d s3 n3 c3 m3) rfl rfl 39 DZ HZ0.out (HID.out _ _ _ _ _) rfl (HDO.out _ _ _ _ _) ?_
                have hfx4 := Fr.row1 wx3 pA9 (dval d s3 n3 c3 m3)
                have HZ1' := Lib.hid ((show Bk (wx3.setRow pA9 (dval d s3 n3 c3 m3)) pB9 RZ 24 from ArrKit.Bk.rowOther HZ1.out _ (HPQ.out.symm)))
                clear HZ1
                have HZ1 := HZ1'
                clear HZ1'
                have HO0' := Lib.hid (DV.past HO0.out HOK.out hfx4 HZ0.out DZ_no)
                clear HO0
                have HO0 := HO0'
                clear HO0'
                have HO1' := Lib.hid (RV.past HO1.out hfx4 (show Bk _ _ (dval ⟨[], [], 0, false⟩ none 0 none 0) 39 from HZ0.out))
                clear HO1
                have HO1 := HO1'
                clear HO1'
                have HX0' : Hid (Bk (wx3.setRow pA9 (dval d s3 n3 c3 m3)) pA9 (dval d s3 n3 c3 m3) 39) := Lib.hid (ArrKit.Bk.row HZ0.out _)
                clear HZ0
                have HZ0 := HX0'
                clear HX0'
                refine hK.out _ _ (ArrKit.Fr.row hHeld4 _ _ (.inl HLO0.out)) (fun hHeld5 => ?_)
                clear hK K hHeld4
                clear hfx4
                generalize (wx3.setRow pA9 (dval d s3 n3 c3 m3)) = wx4 at *
                change wpAnyH _ _ _ _ _ 1 #[true, true, true, true, true, true, true, false] _ _
                refine wpAnyH_ready (rs := [7]) (by kernel_rfl) (by simp) ?_
                refine AllReadyH.cons rfl (fun K hK => ?_) AllReadyH.nil
                simp only [List.getElem_toArray, List.getElem_cons_succ, List.getElem_cons_zero]
                refine (if_pos (by kernel_rfl)).mpr ?_
                refine wp_store_row 24 _ _ rfl pB9 (rval M a3 k3) rfl rfl 24 RZ HZ1.out (HIR.out _ _ _) rfl (HRO.out _ _ _) ?_
                have hfx5 := Fr.row1 wx4 pB9 (rval M a3 k3)
                have HO0' := Lib.hid (DV_past HO0.out HOK.out hfx5 HZ1.out (rc_no 0 none 0 0))
                clear HO0
                have HO0 := HO0'
                clear HO0'
                have HO1' := Lib.hid (RV.pastR HO1.out hfx5 HZ1.out)
                clear HO1
                have HO1 := HO1'
                clear HO1'
                have HZ0' := Lib.hid ((show Bk (wx4.setRow pB9 (rval M a3 k3)) pA9 (dval d s3 n3 c3 m3) 39 from ArrKit.Bk.rowOther HZ0.out _ (HPQ.out)))
                clear HZ0
                have HZ0 := HZ0'
                clear HZ0'
                have HX1' : Hid (Bk (wx4.setRow pB9 (rval M a3 k3)) pB9 (rval M a3 k3) 24) := Lib.hid (ArrKit.Bk.row HZ1.out _)
                clear HZ1
                have HZ1 := HX1'
                clear HX1'
                refine hK.out _ _ (ArrKit.Fr.row hHeld5 _ _ (.inl HLO1.out)) (fun hHeld6 => ?_)
                clear hK K hHeld5
                clear hfx5
                generalize (wx4.setRow pB9 (rval M a3 k3)) = wx5 at *
                change wpAnyH _ _ _ _ _ 0 #[true, true, true, true, true, true, true, true] _ _
                refine wpAnyH_done (by kernel_rfl) ?_ _
                refine NoPanic.normal ?_
                have HEND := Lib.hid hHeld6
                clear hHeld6
                exact HREST2.out wx5 pA9 pB9 s3 n3 c3 m3 a3 k3 HEND.out ⟨HZ0.out, HO0.out⟩ HZ1.out HO1.out HPQ.out HLO0.out HLO1.out
              · simp only [List.getElem_toArray, List.getElem_cons_succ, List.getElem_cons_zero]
                refine (if_pos (by kernel_rfl)).mpr ?_
                go_wp2_with fail
                have hfx2 : Fr (fun _ => False) wx1 (wx1.alloc (.cells DZ 39)) := Fr.alloc (Fr.refl _ _) _
                have HLO0 : Hid (w10.heap.size ≤ wx1.heap.size) := Lib.hid (Fr.size hHeld2)
                have HPQ : Hid (wx1.heap.size ≠ pB9) := Lib.hid (by have h1 := Bk.lt HZ1.out; omega)
                have HZ1' := Lib.hid (hfx2.keep HZ1.out (fun h => h))
                clear HZ1
                have HZ1 := HZ1'
                clear HZ1'
                have HO0' := Lib.hid (DV.keep HO0.out hfx2)
                clear HO0
                have HO0 := HO0'
                clear HO0'
                have HZ0 : Hid (Bk (wx1.alloc (.cells DZ 39)) wx1.heap.size DZ 39) := Lib.hid (Bk.new wx1 _)
                have HB0 : Hid (wx1.heap.size < (wx1.alloc (.cells DZ 39)).heap.size) := Lib.hid (Bk.lt HZ0.out)
                have HB1' : Hid (pB9 < (wx1.alloc (.cells DZ 39)).heap.size) := Lib.hid (Bk.lt HZ1.out)
                clear HB1
                have HB1 := HB1'
                clear HB1'
                refine hK.out _ _ (hHeld2.then0 hfx2) (fun hHeld3 => ?_)
                clear hK K hHeld2
                clear hfx2
                generalize wx1.heap.size = pA9 at *
                generalize (wx1.alloc (.cells DZ 39)) = wx2 at *
                change wpAnyH _ _ _ _ _ 3 #[true, true, true, false, true, true, false, false] _ _
                refine wpAnyH_ready (rs := [3]) (by kernel_rfl) (by simp) ?_
                refine AllReadyH.cons rfl (fun K hK => ?_) AllReadyH.nil
                simp only [List.getElem_toArray, List.getElem_cons_succ, List.getElem_cons_zero]
                refine (if_pos (by kernel_rfl)).mpr ?_
                go_wp2_with fail
                refine (HRC.out _ _ _ (HMV10.out.keep hHeld3)).mono ?_
                rintro e wx3 ⟨a3, k3, rfl, hown1, hfx3⟩
                dsimp only
                have HZ1' := Lib.hid (hfx3.keep HZ1.out (fun h => h))
                clear HZ1
                have HZ1 := HZ1'
                clear HZ1'
                have HO0' := Lib.hid (DV.keep HO0.out hfx3)
                clear HO0
                have HO0 := HO0'
                clear HO0'
                have HZ0' := Lib.hid (hfx3.keep HZ0.out (fun h => h))
                clear HZ0
                have HZ0 := HZ0'
                clear HZ0'
                have HO1 := Lib.hid hown1
                clear hown1
                have HB0' : Hid (pA9 < wx3.heap.size) := Lib.hid (Bk.lt HZ0.out)
                clear HB0
                have HB0 := HB0'
                clear HB0'
                have HB1' : Hid (pB9 < wx3.heap.size) := Lib.hid (Bk.lt HZ1.out)
                clear HB1
                have HB1 := HB1'
                clear HB1'
                refine hK.out _ _ (hHeld3.then0 hfx3) (fun hHeld4 => ?_)
                clear hK K hHeld3
                clear hfx3
                change wpAnyH _ _ _ _ _ 2 #[true, true, true, true, true, true, false, false] _ _
                refine wpAnyH_ready (rs := [6]) (by kernel_rfl) (by simp) ?_
                refine AllReadyH.cons rfl (fun K hK => ?_) AllReadyH.nil
                simp only [List.getElem_toArray, List.getElem_cons_succ, List.getElem_cons_zero]
                refine (if_pos (by kernel_rfl)).mpr ?_
                refine wp_store_row 39 _ _ rfl pA9 (dval d s3 n3 c3 m3) rfl rfl 39 DZ HZ0.out (HID.out _ _ _ _ _) rfl (HDO.out _ _ _ _ _) ?_
                have hfx4 := Fr.row1 wx3 pA9 (dval d s3 n3 c3 m3)
                have HZ1' := Lib.hid ((show Bk (wx3.setRow pA9 (dval d s3 n3 c3 m3)) pB9 RZ 24 from ArrKit.Bk.rowOther HZ1.out _ (HPQ.out.symm)))
                clear HZ1
                have HZ1 := HZ1'
                clear HZ1'
                have HO0' := Lib.hid (DV.past HO0.out HOK.out hfx4 HZ0.out DZ_no)
                clear HO0
                have HO0 := HO0'
                clear HO0'
                have HO1' := Lib.hid (RV.past HO1.out hfx4 (show Bk _ _ (dval ⟨[], [], 0, false⟩ none 0 none 0) 39 from HZ0.out))
                clear HO1
                have HO1 := HO1'
                clear HO1'
                have HX0' : Hid (Bk (wx3.setRow pA9 (dval d s3 n3 c3 m3)) pA9 (dval d s3 n3 c3 m3) 39) := Lib.hid (ArrKit.Bk.row HZ0.out _)
                clear HZ0
                have HZ0 := HX0'
                clear HX0'
                refine hK.out _ _ (ArrKit.Fr.row hHeld4 _ _ (.inl HLO0.out)) (fun hHeld5 => ?_)
                clear hK K hHeld4
                clear hfx4
                generalize (wx3.setRow pA9 (dval d s3 n3 c3 m3)) = wx4 at *
                change wpAnyH _ _ _ _ _ 1 #[true, true, true, true, true, true, true, false] _ _
                refine wpAnyH_ready (rs := [7]) (by kernel_rfl) (by simp) ?_
                refine AllReadyH.cons rfl (fun K hK => ?_) AllReadyH.nil
                simp only [List.getElem_toArray, List.getElem_cons_succ, List.getElem_cons_zero]
                refine (if_pos (by kernel_rfl)).mpr ?_
                refine wp_store_row 24 _ _ rfl pB9 (rval M a3 k3) rfl rfl 24 RZ HZ1.out (HIR.out _ _ _) rfl (HRO.out _ _ _) ?_
                have hfx5 := Fr.row1 wx4 pB9 (rval M a3 k3)
                have HO0' := Lib.hid (DV_past HO0.out HOK.out hfx5 HZ1.out (rc_no 0 none 0 0))
                clear HO0
                have HO0 := HO0'
                clear HO0'
                have HZ0' := Lib.hid ((show Bk (wx4.setRow pB9 (rval M a3 k3)) pA9 (dval d s3 n3 c3 m3) 39 from ArrKit.Bk.rowOther HZ0.out _ (HPQ.out)))
                clear HZ0
                have HZ0 := HZ0'
                clear HZ0'
                have HO1' := Lib.hid (RV.pastR HO1.out hfx5 HZ1.out)
                clear HO1
                have HO1 := HO1'
                clear HO1'
                have HX1' : Hid (Bk (wx4.setRow pB9 (rval M a3 k3)) pB9 (rval M a3 k3) 24) := Lib.hid (ArrKit.Bk.row HZ1.out _)
                clear HZ1
                have HZ1 := HX1'
                clear HX1'
                refine hK.out _ _ (ArrKit.Fr.row hHeld5 _ _ (.inl HLO1.out)) (fun hHeld6 => ?_)
                clear hK K hHeld5
                clear hfx5
                generalize (wx4.setRow pB9 (rval M a3 k3)) = wx5 at *
                change wpAnyH _ _ _ _ _ 0 #[true, true, true, true, true, true, true, true] _ _
                refine wpAnyH_done (by kernel_rfl) ?_ _
                refine NoPanic.normal ?_
                have HEND := Lib.hid hHeld6
                clear hHeld6
                exact HREST2.out wx5 pA9 pB9 s3 n3 c3 m3 a3 k3 HEND.out ⟨HZ0.out, HO0.out⟩ HZ1.out HO1.out HPQ.out HLO0.out HLO1.out
            · simp only [List.getElem_toArray, List.getElem_cons_succ, List.getElem_cons_zero]
              refine (if_pos (by kernel_rfl)).mpr ?_
              go_wp2_with fail
              have hfx1 : Fr (fun _ => False) wx0 (wx0.alloc (.cells DZ 39)) := Fr.alloc (Fr.refl _ _) _
              have HLO0 : Hid (w10.heap.size ≤ wx0.heap.size) := Lib.hid (Fr.size hHeld1)
              have HPQ : Hid (wx0.heap.size ≠ pB9) := Lib.hid (by have h1 := Bk.lt HZ1.out; omega)
              have HZ1' := Lib.hid (hfx1.keep HZ1.out (fun h => h))
              clear HZ1
              have HZ1 := HZ1'
              clear HZ1'
              have HZ0 : Hid (Bk (wx0.alloc (.cells DZ 39)) wx0.heap.size DZ 39) := Lib.hid (Bk.new wx0 _)
              have HB0 : Hid (wx0.heap.size < (wx0.alloc (.cells DZ 39)).heap.size) := Lib.hid (Bk.lt HZ0.out)
              have HB1' : Hid (pB9 < (wx0.alloc (.cells DZ 39)).heap.size) := Lib.hid (Bk.lt HZ1.out)
              clear HB1
              have HB1 := HB1'
              clear HB1'
              refine hK.out _ _ (hHeld1.then0 hfx1) (fun hHeld2 => ?_)
              clear hK K hHeld1
              clear hfx1
              generalize wx0.heap.size = pA9 at *
              generalize (wx0.alloc (.cells DZ 39)) = wx1 at *
              change wpAnyH _ _ _ _ _ 4 #[true, false, true, false, true, true, false, false] _ _
              refine wpAnyH_ready (rs := [1]) (by kernel_rfl) (by simp) ?_
              refine AllReadyH.cons rfl (fun K hK => ?_) AllReadyH.nil
              simp only [List.getElem_toArray, List.getElem_cons_succ, List.getElem_cons_zero]
              refine (if_pos (by kernel_rfl)).mpr ?_
              go_wp2_with fail
              refine (HDC.out _ _ _ _ _ (HV10.out.keep hHeld2)).mono ?_
              rintro e wx2 ⟨s3, n3, c3, m3, rfl, hown0, hfx2⟩
              dsimp only
              have HZ1' := Lib.hid (hfx2.keep HZ1.out (fun h => h))
              clear HZ1
              have HZ1 := HZ1'
              clear HZ1'
              have HZ0' := Lib.hid (hfx2.keep HZ0.out (fun h => h))
              clear HZ0
              have HZ0 := HZ0'
              clear HZ0'
              have HO0 := Lib.hid hown0
              clear hown0
              have HB0' : Hid (pA9 < wx2.heap.size) := Lib.hid (Bk.lt HZ0.out)
              clear HB0
              have HB0 := HB0'
              clear HB0'
              have HB1' : Hid (pB9 < wx2.heap.size) := Lib.hid (Bk.lt HZ1.out)
              clear HB1
              have HB1 := HB1'
              clear HB1'
              refine hK.out _ _ (hHeld2.then0 hfx2) (fun hHeld3 => ?_)
              clear hK K hHeld2
              clear hfx2
              change wpAnyH _ _ _ _ _ 3 #[true, true, true, false, true, true, false, false] _ _
              refine wpAnyH_ready (rs := [3]) (by kernel_rfl) (by simp) ?_
              refine AllReadyH.cons rfl (fun K hK => ?_) AllReadyH.nil
              simp only [List.getElem_toArray, List.getElem_cons_succ, List.getElem_cons_zero]
              refine (if_pos (by kernel_rfl)).mpr ?_
              go_wp2_with fail
              refine (HRC.out _ _ _ (HMV10.out.keep hHeld3)).mono ?_
              rintro e wx3 ⟨a3, k3, rfl, hown1, hfx3⟩
              dsimp only
              have HZ1' := Lib.hid (hfx3.keep HZ1.out (fun h => h))
              clear HZ1
              have HZ1 := HZ1'
              clear HZ1'
              have HZ0' := Lib.hid (hfx3.keep HZ0.out (fun h => h))
              clear HZ0
              have HZ0 := HZ0'
              clear HZ0'
              have HO0' := Lib.hid (DV.keep HO0.out hfx3)
              clear HO0
              have HO0 := HO0'
              clear HO0'
              have HO1 := Lib.hid hown1
              clear hown1
              have HB0' : Hid (pA9 < wx3.heap.size) := Lib.hid (Bk.lt HZ0.out)
              clear HB0
              have HB0 := HB0'
              clear HB0'
              have HB1' : Hid (pB9 < wx3.heap.size) := Lib.hid (Bk.lt HZ1.out)
              clear HB1
              have HB1 := HB1'
              clear HB1'
              refine hK.out _ _ (hHeld3.then0 hfx3) (fun hHeld4 => ?_)
              clear hK K hHeld3
              clear hfx3
              change wpAnyH _ _ _ _ _ 2 #[true, true, true, true, true, true, false, false] _ _
              refine wpAnyH_ready (rs := [6]) (by kernel_rfl) (by simp) ?_
              refine AllReadyH.cons rfl (fun K hK => ?_) AllReadyH.nil
              simp only [List.getElem_toArray, List.getElem_cons_succ, List.getElem_cons_zero]
              refine (if_pos (by kernel_rfl)).mpr ?_
              refine wp_store_row 39 _ _ rfl pA9 (dval d s3 n3 c3 m3) rfl rfl 39 DZ HZ0.out (HID.out _ _ _ _ _) rfl (HDO.out _ _ _ _ _) ?_
              have hfx4 := Fr.row1 wx3 pA9 (dval d s3 n3 c3 m3)
              have HZ1' := Lib.hid ((show Bk (wx3.setRow pA9 (dval d s3 n3 c3 m3)) pB9 RZ 24 from ArrKit.Bk.rowOther HZ1.out _ (HPQ.out.symm)))
              clear HZ1
              have HZ1 := HZ1'
              clear HZ1'
              have HO0' := Lib.hid (DV.past HO0.out HOK.out hfx4 HZ0.out DZ_no)
              clear HO0
              have HO0 := HO0'
              clear HO0'
              have HO1' := Lib.hid (RV.past HO1.out hfx4 (show Bk _ _ (dval ⟨[], [], 0, false⟩ none 0 none 0) 39 from HZ0.out))
              clear HO1
              have HO1 := HO1'
              clear HO1'
              have HX0' : Hid (Bk (wx3.setRow pA9 (dval d s3 n3 c3 m3)) pA9 (dval d s3 n3 c3 m3) 39) := Lib.hid (ArrKit.Bk.row HZ0.out _)
              clear HZ0
              have HZ0 := HX0'
              clear HX0'
              refine hK.out _ _ (ArrKit.Fr.row hHeld4 _ _ (.inl HLO0.out)) (fun hHeld5 => ?_)
              clear hK K hHeld4
              clear hfx4
              generalize (wx3.setRow pA9 (dval d s3 n3 c3 m3)) = wx4 at *
              change wpAnyH _ _ _ _ _ 1 #[true, true, true, true, true, true, true, false] _ _
              refine wpAnyH_ready (rs := [7]) (by kernel_rfl) (by simp) ?_
              refine AllReadyH.cons rfl (fun K hK => ?_) AllReadyH.nil
              simp only [List.getElem_toArray, List.getElem_cons_succ, List.getElem_cons_zero]
              refine (if_pos (by kernel_rfl)).mpr ?_
              refine wp_store_row 24 _ _ rfl pB9 (rval M a3 k3) rfl rfl 24 RZ HZ1.out (HIR.out _ _ _) rfl (HRO.out _ _ _) ?_
              have hfx5 := Fr.row1 wx4 pB9 (rval M a3 k3)
              have HZ0' := Lib.hid ((show Bk (wx4.setRow pB9 (rval M a3 k3)) pA9 (dval d s3 n3 c3 m3) 39 from ArrKit.Bk.rowOther HZ0.out _ (HPQ.out)))
              clear HZ0
              have HZ0 := HZ0'
              clear HZ0'
              have HO0' := Lib.hid (DV_past HO0.out HOK.out hfx5 HZ1.out (rc_no 0 none 0 0))
              clear HO0
              have HO0 := HO0'
              clear HO0'
              have HO1' := Lib.hid (RV.pastR HO1.out hfx5 HZ1.out)
              clear HO1
              have HO1 := HO1'
              clear HO1'
              have HX1' : Hid (Bk (wx4.setRow pB9 (rval M a3 k3)) pB9 (rval M a3 k3) 24) := Lib.hid (ArrKit.Bk.row HZ1.out _)
              clear HZ1
              have HZ1 := HX1'
              clear HX1'
              refine hK.out _ _ (ArrKit.Fr.row hHeld5 _ _ (.inl HLO1.out)) (fun hHeld6 => ?_)
              clear hK K hHeld5
              clear hfx5
              generalize (wx4.setRow pB9 (rval M a3 k3)) = wx5 at *
              change wpAnyH _ _ _ _ _ 0 #[true, true, true, true, true, true, true, true] _ _
              refine wpAnyH_done (by kernel_rfl) ?_ _
              refine NoPanic.normal ?_
              have HEND := Lib.hid hHeld6
              clear hHeld6
              exact HREST2.out wx5 pA9 pB9 s3 n3 c3 m3 a3 k3 HEND.out ⟨HZ0.out, HO0.out⟩ HZ1.out HO1.out HPQ.out HLO0.out HLO1.out
        )
      clear hKA
      refine wp_region_noPanic ?_
      refine wp_region_held_drew (S := (fun W : World => Fr (fun _ => False) wr W)) (by kernel_rfl) (Fr.drew (Fr.refl _ _)) (fun hHeld0 => ?_)
      generalize wr.drew = wd at *
      change wpAnyH _ _ _ _ _ 8 #[false, false, false, false, false, false, false, false] _ _
      refine wpAnyH_take (i := 0) (v := .agg (dval d (some ⟨sb, so, none⟩) sc ca cc)) rfl (by kernel_rfl) (by kernel_rfl) (by kernel_rfl) (fun _ _ _ h => h) (yields_row (by kernel_rfl) 39 _ rfl (w.heap.size) rfl 39 (dval d (some ⟨sb, so, none⟩) sc ca cc) (0, 0) _ (fun _ h => Fr.keep h HX7.out (fun h => h)) Tryd.underlying39 rfl (HID.out _ _ _ _ _)) hHeld0 ?_
      simp only [Act.put, List.getElem_toArray, List.getElem_cons_succ, List.getElem_cons_zero, List.setIfInBounds_toArray, List.set_cons_zero, List.set_cons_succ]
      change wpAnyH _ _ _ _ _ 7 #[true, false, false, false, false, false, false, false] _ _
      refine wpAnyH_take (i := 2) (v := .agg (rval M a5 k5)) rfl (by kernel_rfl) (by kernel_rfl) (by kernel_rfl) (fun _ _ _ h => h) (yields_row (by kernel_rfl) 24 _ rfl (mA) rfl 24 (rval M a5 k5) (0, 0) _ (fun _ h => Fr.keep h HM7.out (fun h => h)) Tryd.underlying24 rfl (HIR.out _ _ _)) hHeld0 ?_
      simp only [Act.put, List.getElem_toArray, List.getElem_cons_succ, List.getElem_cons_zero, List.setIfInBounds_toArray, List.set_cons_zero, List.set_cons_succ]
      change wpAnyH _ _ _ _ _ 6 #[true, false, true, false, false, false, false, false] _ _
      refine wpAnyH_ready (rs := [1, 4, 5]) (by kernel_rfl) (by simp) ?_
      refine AllReadyH.cons rfl (fun K hK => ?_) (AllReadyH.cons rfl (fun K hK => ?_) (AllReadyH.cons rfl (fun K hK => ?_) (AllReadyH.nil)))
      · simp only [List.getElem_toArray, List.getElem_cons_succ, List.getElem_cons_zero]
        refine (if_pos (by kernel_rfl)).mpr ?_
        go_wp2_with fail
        refine (HDC.out _ _ _ _ _ (HV7.out.keep hHeld0)).mono ?_
        rintro e wx0 ⟨s2, n2, c2, m2, rfl, hown0, hfx0⟩
        dsimp only
        have HO0 := Lib.hid hown0
        clear hown0
        refine hK.out _ _ (hHeld0.then0 hfx0) (fun hHeld1 => ?_)
        clear hK K hHeld0
        clear hfx0
        change wpAnyH _ _ _ _ _ 5 #[true, true, true, false, false, false, false, false] _ _
        refine wpAnyH_ready (rs := [3, 4, 5]) (by kernel_rfl) (by simp) ?_
        refine AllReadyH.cons rfl (fun K hK => ?_) (AllReadyH.cons rfl (fun K hK => ?_) (AllReadyH.cons rfl (fun K hK => ?_) (AllReadyH.nil)))
        · simp only [List.getElem_toArray, List.getElem_cons_succ, List.getElem_cons_zero]
          refine (if_pos (by kernel_rfl)).mpr ?_
          go_wp2_with fail
          refine (HRC.out _ _ _ (HMV7.out.keep hHeld1)).mono ?_
          rintro e wx1 ⟨a2, k2, rfl, hown1, hfx1⟩
          dsimp only
          have HO0' := Lib.hid (DV.keep HO0.out hfx1)
          clear HO0
          have HO0 := HO0'
          clear HO0'
          have HO1 := Lib.hid hown1
          clear hown1
          refine hK.out _ _ (hHeld1.then0 hfx1) (fun hHeld2 => ?_)
          clear hK K hHeld1
          clear hfx1
          change wpAnyH _ _ _ _ _ 4 #[true, true, true, true, false, false, false, false] _ _
          refine wpAnyH_ready (rs := [4, 5]) (by kernel_rfl) (by simp) ?_
          refine AllReadyH.cons rfl (fun K hK => ?_) (AllReadyH.cons rfl (fun K hK => ?_) (AllReadyH.nil))
          · simp only [List.getElem_toArray, List.getElem_cons_succ, List.getElem_cons_zero]
            refine (if_pos (by kernel_rfl)).mpr ?_
            go_wp2_with fail
            have hfx2 : Fr (fun _ => False) wx1 (wx1.alloc (.cells DZ 39)) := Fr.alloc (Fr.refl _ _) _
            have HLO0 : Hid (wr.heap.size ≤ wx1.heap.size) := Lib.hid (Fr.size hHeld2)
            have HO0' := Lib.hid (DV.keep HO0.out hfx2)
            clear HO0
            have HO0 := HO0'
            clear HO0'
            have HO1' := Lib.hid (RV.keep HO1.out hfx2)
            clear HO1
            have HO1 := HO1'
            clear HO1'
            have HZ0 : Hid (Bk (wx1.alloc (.cells DZ 39)) wx1.heap.size DZ 39) := Lib.hid (Bk.new wx1 _)
            have HB0 : Hid (wx1.heap.size < (wx1.alloc (.cells DZ 39)).heap.size) := Lib.hid (Bk.lt HZ0.out)
            refine hK.out _ _ (hHeld2.then0 hfx2) (fun hHeld3 => ?_)
            clear hK K hHeld2
            clear hfx2
            generalize wx1.heap.size = pA at *
            generalize (wx1.alloc (.cells DZ 39)) = wx2 at *
            change wpAnyH _ _ _ _ _ 3 #[true, true, true, true, true, false, false, false] _ _
            refine wpAnyH_ready (rs := [5]) (by kernel_rfl) (by simp) ?_
            refine AllReadyH.cons rfl (fun K hK => ?_) AllReadyH.nil
            simp only [List.getElem_toArray, List.getElem_cons_succ, List.getElem_cons_zero]
            refine (if_pos (by kernel_rfl)).mpr ?_
            go_wp2_with fail
            have hfx3 : Fr (fun _ => False) wx2 (wx2.alloc (.cells RZ 24)) := Fr.alloc (Fr.refl _ _) _
            have HLO1 : Hid (wr.heap.size ≤ wx2.heap.size) := Lib.hid (Fr.size hHeld3)
            have HPQ : Hid (pA ≠ wx2.heap.size) := Lib.hid (by have h1 := Bk.lt HZ0.out; omega)
            have HO0' := Lib.hid (DV.keep HO0.out hfx3)
            clear HO0
            have HO0 := HO0'
            clear HO0'
            have HO1' := Lib.hid (RV.keep HO1.out hfx3)
            clear HO1
            have HO1 := HO1'
            clear HO1'
            have HZ0' := Lib.hid (hfx3.keep HZ0.out (fun h => h))
            clear HZ0
            have HZ0 := HZ0'
            clear HZ0'
            have HZ1 : Hid (Bk (wx2.alloc (.cells RZ 24)) wx2.heap.size RZ 24) := Lib.hid (Bk.new wx2 _)
            have HB1 : Hid (wx2.heap.size < (wx2.alloc (.cells RZ 24)).heap.size) := Lib.hid (Bk.lt HZ1.out)
            have HB0' : Hid (pA < (wx2.alloc (.cells RZ 24)).heap.size) := Lib.hid (Bk.lt HZ0.out)
            clear HB0
            have HB0 := HB0'
            clear HB0'
            refine hK.out _ _ (hHeld3.then0 hfx3) (fun hHeld4 => ?_)
            clear hK K hHeld3
            clear hfx3
            generalize wx2.heap.size = pB at *
            generalize (wx2.alloc (.cells RZ 24)) = wx3 at *
            change wpAnyH _ _ _ _ _ 2 #[true, true, true, true, true, true, false, false] _ _
            refine wpAnyH_ready (rs := [6]) (by kernel_rfl) (by simp) ?_
            refine AllReadyH.cons rfl (fun K hK => ?_) AllReadyH.nil
            simp only [List.getElem_toArray, List.getElem_cons_succ, List.getElem_cons_zero]
            refine (if_pos (by kernel_rfl)).mpr ?_
            refine wp_store_row 39 _ _ rfl pA (dval d s2 n2 c2 m2) rfl rfl 39 DZ HZ0.out (HID.out _ _ _ _ _) rfl (HDO.out _ _ _ _ _) ?_
            have hfx4 := Fr.row1 wx3 pA (dval d s2 n2 c2 m2)
            have HO0' := Lib.hid (DV.past HO0.out HOK.out hfx4 HZ0.out DZ_no)
            clear HO0
            have HO0 := HO0'
            clear HO0'
            have HO1' := Lib.hid (RV.past HO1.out hfx4 (show Bk _ _ (dval ⟨[], [], 0, false⟩ none 0 none 0) 39 from HZ0.out))
            clear HO1
            have HO1 := HO1'
            clear HO1'
            have HZ1' := Lib.hid ((show Bk (wx3.setRow pA (dval d s2 n2 c2 m2)) pB RZ 24 from ArrKit.Bk.rowOther HZ1.out _ (HPQ.out.symm)))
            clear HZ1
            have HZ1 := HZ1'
            clear HZ1'
            have HX0' : Hid (Bk (wx3.setRow pA (dval d s2 n2 c2 m2)) pA (dval d s2 n2 c2 m2) 39) := Lib.hid (ArrKit.Bk.row HZ0.out _)
            clear HZ0
            have HZ0 := HX0'
            clear HX0'
            refine hK.out _ _ (ArrKit.Fr.row hHeld4 _ _ (.inl HLO0.out)) (fun hHeld5 => ?_)
            clear hK K hHeld4
            clear hfx4
            generalize (wx3.setRow pA (dval d s2 n2 c2 m2)) = wx4 at *
            change wpAnyH _ _ _ _ _ 1 #[true, true, true, true, true, true, true, false] _ _
            refine wpAnyH_ready (rs := [7]) (by kernel_rfl) (by simp) ?_
            refine AllReadyH.cons rfl (fun K hK => ?_) AllReadyH.nil
            simp only [List.getElem_toArray, List.getElem_cons_succ, List.getElem_cons_zero]
            refine (if_pos (by kernel_rfl)).mpr ?_
            refine wp_store_row 24 _ _ rfl pB (rval M a2 k2) rfl rfl 24 RZ HZ1.out (HIR.out _ _ _) rfl (HRO.out _ _ _) ?_
            have hfx5 := Fr.row1 wx4 pB (rval M a2 k2)
            have HO0' := Lib.hid (DV_past HO0.out HOK.out hfx5 HZ1.out (rc_no 0 none 0 0))
            clear HO0
            have HO0 := HO0'
            clear HO0'
            have HO1' := Lib.hid (RV.pastR HO1.out hfx5 HZ1.out)
            clear HO1
            have HO1 := HO1'
            clear HO1'
            have HZ0' := Lib.hid ((show Bk (wx4.setRow pB (rval M a2 k2)) pA (dval d s2 n2 c2 m2) 39 from ArrKit.Bk.rowOther HZ0.out _ (HPQ.out)))
            clear HZ0
            have HZ0 := HZ0'
            clear HZ0'
            have HX1' : Hid (Bk (wx4.setRow pB (rval M a2 k2)) pB (rval M a2 k2) 24) := Lib.hid (ArrKit.Bk.row HZ1.out _)
            clear HZ1
            have HZ1 := HX1'
            clear HX1'
            refine hK.out _ _ (ArrKit.Fr.row hHeld5 _ _ (.inl HLO1.out)) (fun hHeld6 => ?_)
            clear hK K hHeld5
            clear hfx5
            generalize (wx4.setRow pB (rval M a2 k2)) = wx5 at *
            change wpAnyH _ _ _ _ _ 0 #[true, true, true, true, true, true, true, true] _ _
            refine wpAnyH_done (by kernel_rfl) ?_ _
            refine NoPanic.normal ?_
            have HEND := Lib.hid hHeld6
            clear hHeld6
            exact HREST.out wx5 pA pB s2 n2 c2 m2 a2 k2 HEND.out ⟨HZ0.out, HO0.out⟩ HZ1.out HO1.out HPQ.out HLO0.out HLO1.out
          · simp only [List.getElem_toArray, List.getElem_cons_succ, List.getElem_cons_zero]
            refine (if_pos (by kernel_rfl)).mpr ?_
            go_wp2_with fail
            have hfx2 : Fr (fun _ => False) wx1 (wx1.alloc (.cells RZ 24)) := Fr.alloc (Fr.refl _ _) _
            have HLO1 : Hid (wr.heap.size ≤ wx1.heap.size) := Lib.hid (Fr.size hHeld2)
            have HO0' := Lib.hid (DV.keep HO0.out hfx2)
            clear HO0
            have HO0 := HO0'
            clear HO0'
            have HO1' := Lib.hid (RV.keep HO1.out hfx2)
            clear HO1
            have HO1 := HO1'
            clear HO1'
            have HZ1 : Hid (Bk (wx1.alloc (.cells RZ 24)) wx1.heap.size RZ 24) := Lib.hid (Bk.new wx1 _)
            have HB1 : Hid (wx1.heap.size < (wx1.alloc (.cells RZ 24)).heap.size) := Lib.hid (Bk.lt HZ1.out)
            refine hK.out _ _ (hHeld2.then0 hfx2) (fun hHeld3 => ?_)
            clear hK K hHeld2
            clear hfx2
            generalize wx1.heap.size = pB at *
            generalize (wx1.alloc (.cells RZ 24)) = wx2 at *
            change wpAnyH _ _ _ _ _ 3 #[true, true, true, true, false, true, false, false] _ _
            refine wpAnyH_ready (rs := [4]) (by kernel_rfl) (by simp) ?_
            refine AllReadyH.cons rfl (fun K hK => ?_) AllReadyH.nil
            simp only [List.getElem_toArray, List.getElem_cons_succ, List.getElem_cons_zero]
            refine (if_pos (by kernel_rfl)).mpr ?_
            go_wp2_with fail
            have hfx3 : Fr (fun _ => False) wx2 (wx2.alloc (.cells DZ 39)) := Fr.alloc (Fr.refl _ _) _
            have HLO0 : Hid (wr.heap.size ≤ wx2.heap.size) := Lib.hid (Fr.size hHeld3)
            have HPQ : Hid (wx2.heap.size ≠ pB) := Lib.hid (by have h1 := Bk.lt HZ1.out; omega)
            have HO0' := Lib.hid (DV.keep HO0.out hfx3)
            clear HO0
            have HO0 := HO0'
            clear HO0'
            have HO1' := Lib.hid (RV.keep HO1.out hfx3)
            clear HO1
            have HO1 := HO1'
            clear HO1'
            have HZ1' := Lib.hid (hfx3.keep HZ1.out (fun h => h))
            clear HZ1
            have HZ1 := HZ1'
            clear HZ1'
            have HZ0 : Hid (Bk (wx2.alloc (.cells DZ 39)) wx2.heap.size DZ 39) := Lib.hid (Bk.new wx2 _)
            have HB0 : Hid (wx2.heap.size < (wx2.alloc (.cells DZ 39)).heap.size) := Lib.hid (Bk.lt HZ0.out)
            have HB1' : Hid (pB < (wx2.alloc (.cells DZ 39)).heap.size) := Lib.hid (Bk.lt HZ1.out)
            clear HB1
            have HB1 := HB1'
            clear HB1'
            refine hK.out _ _ (hHeld3.then0 hfx3) (fun hHeld4 => ?_)
            clear hK K hHeld3
            clear hfx3
            generalize wx2.heap.size = pA at *
            generalize (wx2.alloc (.cells DZ 39)) = wx3 at *
            change wpAnyH _ _ _ _ _ 2 #[true, true, true, true, true, true, false, false] _ _
            refine wpAnyH_ready (rs := [6]) (by kernel_rfl) (by simp) ?_
            refine AllReadyH.cons rfl (fun K hK => ?_) AllReadyH.nil
            simp only [List.getElem_toArray, List.getElem_cons_succ, List.getElem_cons_zero]
            refine (if_pos (by kernel_rfl)).mpr ?_
            refine wp_store_row 39 _ _ rfl pA (dval d s2 n2 c2 m2) rfl rfl 39 DZ HZ0.out (HID.out _ _ _ _ _) rfl (HDO.out _ _ _ _ _) ?_
            have hfx4 := Fr.row1 wx3 pA (dval d s2 n2 c2 m2)
            have HO0' := Lib.hid (DV.past HO0.out HOK.out hfx4 HZ0.out DZ_no)
            clear HO0
            have HO0 := HO0'
            clear HO0'
            have HO1' := Lib.hid (RV.past HO1.out hfx4 (show Bk _ _ (dval ⟨[], [], 0, false⟩ none 0 none 0) 39 from HZ0.out))
            clear HO1
            have HO1 := HO1'
            clear HO1'
            have HZ1' := Lib.hid ((show Bk (wx3.setRow pA (dval d s2 n2 c2 m2)) pB RZ 24 from ArrKit.Bk.rowOther HZ1.out _ (HPQ.out.symm)))
            clear HZ1
            have HZ1 := HZ1'
            clear HZ1'
            have HX0' : Hid (Bk (wx3.setRow pA (dval d s2 n2 c2 m2)) pA (dval d s2 n2 c2 m2) 39) := Lib.hid (ArrKit.Bk.row HZ0.out _)
            clear HZ0
            have HZ0 := HX0'
            clear HX0'
            refine hK.out _ _ (ArrKit.Fr.row hHeld4 _ _ (.inl HLO0.out)) (fun hHeld5 => ?_)
            clear hK K hHeld4
            clear hfx4
            generalize (wx3.setRow pA (dval d s2 n2 c2 m2)) = wx4 at *
            change wpAnyH _ _ _ _ _ 1 #[true, true, true, true, true, true, true, false] _ _
            refine wpAnyH_ready (rs := [7]) (by kernel_rfl) (by simp) ?_
            refine AllReadyH.cons rfl (fun K hK => ?_) AllReadyH.nil
            simp only [List.getElem_toArray, List.getElem_cons_succ, List.getElem_cons_zero]
            refine (if_pos (by kernel_rfl)).mpr ?_
            refine wp_store_row 24 _ _ rfl pB (rval M a2 k2) rfl rfl 24 RZ HZ1.out (HIR.out _ _ _) rfl (HRO.out _ _ _) ?_
            have hfx5 := Fr.row1 wx4 pB (rval M a2 k2)
            have HO0' := Lib.hid (DV_past HO0.out HOK.out hfx5 HZ1.out (rc_no 0 none 0 0))
            clear HO0
            have HO0 := HO0'
            clear HO0'
            have HO1' := Lib.hid (RV.pastR HO1.out hfx5 HZ1.out)
            clear HO1
            have HO1 := HO1'
            clear HO1'
            have HZ0' := Lib.hid ((show Bk (wx4.setRow pB (rval M a2 k2)) pA (dval d s2 n2 c2 m2) 39 from ArrKit.Bk.rowOther HZ0.out _ (HPQ.out)))
            clear HZ0
            have HZ0 := HZ0'
            clear HZ0'
            have HX1' : Hid (Bk (wx4.setRow pB (rval M a2 k2)) pB (rval M a2 k2) 24) := Lib.hid (ArrKit.Bk.row HZ1.out _)
            clear HZ1
            have HZ1 := HX1'
            clear HX1'
            refine hK.out _ _ (ArrKit.Fr.row hHeld5 _ _ (.inl HLO1.out)) (fun hHeld6 => ?_)
            clear hK K hHeld5
            clear hfx5
            generalize (wx4.setRow pB (rval M a2 k2)) = wx5 at *
            change wpAnyH _ _ _ _ _ 0 #[true, true, true, true, true, true, true, true] _ _
            refine wpAnyH_done (by kernel_rfl) ?_ _
            refine NoPanic.normal ?_
            have HEND := Lib.hid hHeld6
            clear hHeld6
            exact HREST.out wx5 pA pB s2 n2 c2 m2 a2 k2 HEND.out ⟨HZ0.out, HO0.out⟩ HZ1.out HO1.out HPQ.out HLO0.out HLO1.out
        · simp only [List.getElem_toArray, List.getElem_cons_succ, List.getElem_cons_zero]
          refine (if_pos (by kernel_rfl)).mpr ?_
          go_wp2_with fail
          have hfx1 : Fr (fun _ => False) wx0 (wx0.alloc (.cells DZ 39)) := Fr.alloc (Fr.refl _ _) _
          have HLO0 : Hid (wr.heap.size ≤ wx0.heap.size) := Lib.hid (Fr.size hHeld1)
          have HO0' := Lib.hid (DV.keep HO0.out hfx1)
          clear HO0
          have HO0 := HO0'
          clear HO0'
          have HZ0 : Hid (Bk (wx0.alloc (.cells DZ 39)) wx0.heap.size DZ 39) := Lib.hid (Bk.new wx0 _)
          have HB0 : Hid (wx0.heap.size < (wx0.alloc (.cells DZ 39)).heap.size) := Lib.hid (Bk.lt HZ0.out)
          refine hK.out _ _ (hHeld1.then0 hfx1) (fun hHeld2 => ?_)
          clear hK K hHeld1
          clear hfx1
          generalize wx0.heap.size = pA at *
          generalize (wx0.alloc (.cells DZ 39)) = wx1 at *
          change wpAnyH _ _ _ _ _ 4 #[true, true, true, false, true, false, false, false] _ _
          refine wpAnyH_ready (rs := [3, 5]) (by kernel_rfl) (by simp) ?_
          refine AllReadyH.cons rfl (fun K hK => ?_) (AllReadyH.cons rfl (fun K hK => ?_) (AllReadyH.nil))
          · simp only [List.getElem_toArray, List.getElem_cons_succ, List.getElem_cons_zero]
            refine (if_pos (by kernel_rfl)).mpr ?_
            go_wp2_with fail
            refine (HRC.out _ _ _ (HMV7.out.keep hHeld2)).mono ?_
            rintro e wx2 ⟨a2, k2, rfl, hown1, hfx2⟩
            dsimp only
            have HO0' := Lib.hid (DV.keep HO0.out hfx2)
            clear HO0
            have HO0 := HO0'
            clear HO0'
            have HZ0' := Lib.hid (hfx2.keep HZ0.out (fun h => h))
            clear HZ0
            have HZ0 := HZ0'
            clear HZ0'
            have HO1 := Lib.hid hown1
            clear hown1
            have HB0' : Hid (pA < wx2.heap.size) := Lib.hid (Bk.lt HZ0.out)
            clear HB0
            have HB0 := HB0'
            clear HB0'
            refine hK.out _ _ (hHeld2.then0 hfx2) (fun hHeld3 => ?_)
            clear hK K hHeld2
            clear hfx2
            change wpAnyH _ _ _ _ _ 3 #[true, true, true, true, true, false, false, false] _ _
            refine wpAnyH_ready (rs := [5]) (by kernel_rfl) (by simp) ?_
            refine AllReadyH.cons rfl (fun K hK => ?_) AllReadyH.nil
            simp only [List.getElem_toArray, List.getElem_cons_succ, List.getElem_cons_zero]
            refine (if_pos (by kernel_rfl)).mpr ?_
            go_wp2_with fail
            have hfx3 : Fr (fun _ => False) wx2 (wx2.alloc (.cells RZ 24)) := Fr.alloc (Fr.refl _ _) _
            have HLO1 : Hid (wr.heap.size ≤ wx2.heap.size) := Lib.hid (Fr.size hHeld3)
            have HPQ : Hid (pA ≠ wx2.heap.size) := Lib.hid (by have h1 := Bk.lt HZ0.out; omega)
            have HO0' := Lib.hid (DV.keep HO0.out hfx3)
            clear HO0
            have HO0 := HO0'
            clear HO0'
            have HZ0' := Lib.hid (hfx3.keep HZ0.out (fun h => h))
            clear HZ0
            have HZ0 := HZ0'
            clear HZ0'
            have HO1' := Lib.hid (RV.keep HO1.out hfx3)
            clear HO1
            have HO1 := HO1'
            clear HO1'
            have HZ1 : Hid (Bk (wx2.alloc (.cells RZ 24)) wx2.heap.size RZ 24) := Lib.hid (Bk.new wx2 _)
            have HB1 : Hid (wx2.heap.size < (wx2.alloc (.cells RZ 24)).heap.size) := Lib.hid (Bk.lt HZ1.out)
            have HB0' : Hid (pA < (wx2.alloc (.cells RZ 24)).heap.size) := Lib.hid (Bk.lt HZ0.out)
            clear HB0
            have HB0 := HB0'
            clear HB0'
            refine hK.out _ _ (hHeld3.then0 hfx3) (fun hHeld4 => ?_)
            clear hK K hHeld3
            clear hfx3
            generalize wx2.heap.size = pB at *
            generalize (wx2.alloc (.cells RZ 24)) = wx3 at *
            change wpAnyH _ _ _ _ _ 2 #[true, true, true, true, true, true, false, false] _ _
            refine wpAnyH_ready (rs := [6]) (by kernel_rfl) (by simp) ?_
            refine AllReadyH.cons rfl (fun K hK => ?_) AllReadyH.nil
            simp only [List.getElem_toArray, List.getElem_cons_succ, List.getElem_cons_zero]
            refine (if_pos (by kernel_rfl)).mpr ?_
            refine wp_store_row 39 _ _ rfl pA (dval d s2 n2 c2 m2) rfl rfl 39 DZ HZ0.out (HID.out _ _ _ _ _) rfl (HDO.out _ _ _ _ _) ?_
            have hfx4 := Fr.row1 wx3 pA (dval d s2 n2 c2 m2)
            have HO0' := Lib.hid (DV.past HO0.out HOK.out hfx4 HZ0.out DZ_no)
            clear HO0
            have HO0 := HO0'
            clear HO0'
            have HO1' := Lib.hid (RV.past HO1.out hfx4 (show Bk _ _ (dval ⟨[], [], 0, false⟩ none 0 none 0) 39 from HZ0.out))
            clear HO1
            have HO1 := HO1'
            clear HO1'
            have HZ1' := Lib.hid ((show Bk (wx3.setRow pA (dval d s2 n2 c2 m2)) pB RZ 24 from ArrKit.Bk.rowOther HZ1.out _ (HPQ.out.symm)))
            clear HZ1
            have HZ1 := HZ1'
            clear HZ1'
            have HX0' : Hid (Bk (wx3.setRow pA (dval d s2 n2 c2 m2)) pA (dval d s2 n2 c2 m2) 39) := Lib.hid (ArrKit.Bk.row HZ0.out _)
            clear HZ0
            have HZ0 := HX0'
            clear HX0'
            refine hK.out _ _ (ArrKit.Fr.row hHeld4 _ _ (.inl HLO0.out)) (fun hHeld5 => ?_)
            clear hK K hHeld4
            clear hfx4
            generalize (wx3.setRow pA (dval d s2 n2 c2 m2)) = wx4 at *
            change wpAnyH _ _ _ _ _ 1 #[true, true, true, true, true, true, true, false] _ _
            refine wpAnyH_ready (rs := [7]) (by kernel_rfl) (by simp) ?_
            refine AllReadyH.cons rfl (fun K hK => ?_) AllReadyH.nil
            simp only [List.getElem_toArray, List.getElem_cons_succ, List.getElem_cons_zero]
            refine (if_pos (by kernel_rfl)).mpr ?_
            refine wp_store_row 24 _ _ rfl pB (rval M a2 k2) rfl rfl 24 RZ HZ1.out (HIR.out _ _ _) rfl (HRO.out _ _ _) ?_
            have hfx5 := Fr.row1 wx4 pB (rval M a2 k2)
            have HO0' := Lib.hid (DV_past HO0.out HOK.out hfx5 HZ1.out (rc_no 0 none 0 0))
            clear HO0
            have HO0 := HO0'
            clear HO0'
            have HZ0' := Lib.hid ((show Bk (wx4.setRow pB (rval M a2 k2)) pA (dval d s2 n2 c2 m2) 39 from ArrKit.Bk.rowOther HZ0.out _ (HPQ.out)))
            clear HZ0
            have HZ0 := HZ0'
            clear HZ0'
            have HO1' := Lib.hid (RV.pastR HO1.out hfx5 HZ1.out)
            clear HO1
            have HO1 := HO1'
            clear HO1'
            have HX1' : Hid (Bk (wx4.setRow pB (rval M a2 k2)) pB (rval M a2 k2) 24) := Lib.hid (ArrKit.Bk.row HZ1.out _)
            clear HZ1
            have HZ1 := HX1'
            clear HX1'
            refine hK.out _ _ (ArrKit.Fr.row hHeld5 _ _ (.inl HLO1.out)) (fun hHeld6 => ?_)
            clear hK K hHeld5
            clear hfx5
            generalize (wx4.setRow pB (rval M a2 k2)) = wx5 at *
            change wpAnyH _ _ _ _ _ 0 #[true, true, true, true, true, true, true, true] _ _
            refine wpAnyH_done (by kernel_rfl) ?_ _
            refine NoPanic.normal ?_
            have HEND := Lib.hid hHeld6
            clear hHeld6
            exact HREST.out wx5 pA pB s2 n2 c2 m2 a2 k2 HEND.out ⟨HZ0.out, HO0.out⟩ HZ1.out HO1.out HPQ.out HLO0.out HLO1.out
          · simp only [List.getElem_toArray, List.getElem_cons_succ, List.getElem_cons_zero]
            refine (if_pos (by kernel_rfl)).mpr ?_
            go_wp2_with fail
            have hfx2 : Fr (fun _ => False) wx1 (wx1.alloc (.cells RZ 24)) := Fr.alloc (Fr.refl _ _) _
            have HLO1 : Hid (wr.heap.size ≤ wx1.heap.size) := Lib.hid (Fr.size hHeld2)
            have HPQ : Hid (pA ≠ wx1.heap.size) := Lib.hid (by have h1 := Bk.lt HZ0.out; omega)
            have HO0' := Lib.hid (DV.keep HO0.out hfx2)
            clear HO0
            have HO0 := HO0'
            clear HO0'
            have HZ0' := Lib.hid (hfx2.keep HZ0.out (fun h => h))
            clear HZ0
            have HZ0 := HZ0'
            clear HZ0'
            have HZ1 : Hid (Bk (wx1.alloc (.cells RZ 24)) wx1.heap.size RZ 24) := Lib.hid (Bk.new wx1 _)
            have HB1 : Hid (wx1.heap.size < (wx1.alloc (.cells RZ 24)).heap.size) := Lib.hid (Bk.lt HZ1.out)
            have HB0' : Hid (pA < (wx1.alloc (.cells RZ 24)).heap.size) := Lib.hid (Bk.lt HZ0.out)
            clear HB0
            have HB0 := HB0'
            clear HB0'
            refine hK.out _ _ (hHeld2.then0 hfx2) (fun hHeld3 => ?_)
            clear hK K hHeld2
            clear hfx2
            generalize wx1.heap.size = pB at *
            generalize (wx1.alloc (.cells RZ 24)) = wx2 at *
            change wpAnyH _ _ _ _ _ 3 #[true, true, true, false, true, true, false, false] _ _
            refine wpAnyH_ready (rs := [3]) (by kernel_rfl) (by simp) ?_
            refine AllReadyH.cons rfl (fun K hK => ?_) AllReadyH.nil
            simp only [List.getElem_toArray, List.getElem_cons_succ, List.getElem_cons_zero]
            refine (if_pos (by kernel_rfl)).mpr ?_
            go_wp2_with fail
            refine (HRC.out _ _ _ (HMV7.out.keep hHeld3)).mono ?_
            rintro e wx3 ⟨a2, k2, rfl, hown1, hfx3⟩
            dsimp only
            have HO0' := Lib.hid (DV.keep HO0.out hfx3)
            clear HO0
            have HO0 := HO0'
            clear HO0'
            have HZ0' := Lib.hid (hfx3.keep HZ0.out (fun h => h))
            clear HZ0
            have HZ0 := HZ0'
            clear HZ0'
            have HZ1' := Lib.hid (hfx3.keep HZ1.out (fun h => h))
            clear HZ1
            have HZ1 := HZ1'
            clear HZ1'
            have HO1 := Lib.hid hown1
            clear hown1
            have HB0' : Hid (pA < wx3.heap.size) := Lib.hid (Bk.lt HZ0.out)
            clear HB0
            have HB0 := HB0'
            clear HB0'
            have HB1' : Hid (pB < wx3.heap.size) := Lib.hid (Bk.lt HZ1.out)
            clear HB1
            have HB1 := HB1'
            clear HB1'
            refine hK.out _ _ (hHeld3.then0 hfx3) (fun hHeld4 => ?_)
            clear hK K hHeld3
            clear hfx3
            change wpAnyH _ _ _ _ _ 2 #[true, true, true, true, true, true, false, false] _ _
            refine wpAnyH_ready (rs := [6]) (by kernel_rfl) (by simp) ?_
            refine AllReadyH.cons rfl (fun K hK => ?_) AllReadyH.nil
            simp only [List.getElem_toArray, List.getElem_cons_succ, List.getElem_cons_zero]
            refine (if_pos (by kernel_rfl)).mpr ?_
            refine wp_store_row 39 _ _ rfl pA (dval d s2 n2 c2 m2) rfl rfl 39 DZ HZ0.out (HID.out _ _ _ _ _) rfl (HDO.out _ _ _ _ _) ?_
            have hfx4 := Fr.row1 wx3 pA (dval d s2 n2 c2 m2)
            have HO0' := Lib.hid (DV.past HO0.out HOK.out hfx4 HZ0.out DZ_no)
            clear HO0
            have HO0 := HO0'
            clear HO0'
            have HZ1' := Lib.hid ((show Bk (wx3.setRow pA (dval d s2 n2 c2 m2)) pB RZ 24 from ArrKit.Bk.rowOther HZ1.out _ (HPQ.out.symm)))
            clear HZ1
            have HZ1 := HZ1'
            clear HZ1'
            have HO1' := Lib.hid (RV.past HO1.out hfx4 (show Bk _ _ (dval ⟨[], [], 0, false⟩ none 0 none 0) 39 from HZ0.out))
            clear HO1
            have HO1 := HO1'
            clear HO1'
            have HX0' : Hid (Bk (wx3.setRow pA (dval d s2 n2 c2 m2)) pA (dval d s2 n2 c2 m2) 39) := Lib.hid (ArrKit.Bk.row HZ0.out _)
            clear HZ0
            have HZ0 := HX0'
            clear HX0'
            refine hK.out _ _ (ArrKit.Fr.row hHeld4 _ _ (.inl HLO0.out)) (fun hHeld5 => ?_)
            clear hK K hHeld4
            clear hfx4
            generalize (wx3.setRow pA (dval d s2 n2 c2 m2)) = wx4 at *
            change wpAnyH _ _ _ _ _ 1 #[true, true, true, true, true, true, true, false] _ _
            refine wpAnyH_ready (rs := [7]) (by kernel_rfl) (by simp) ?_
            refine AllReadyH.cons rfl (fun K hK => ?_) AllReadyH.nil
            simp only [List.getElem_toArray, List.getElem_cons_succ, List.getElem_cons_zero]
            refine (if_pos (by kernel_rfl)).mpr ?_
            refine wp_store_row 24 _ _ rfl pB (rval M a2 k2) rfl rfl 24 RZ HZ1.out (HIR.out _ _ _) rfl (HRO.out _ _ _) ?_
            have hfx5 := Fr.row1 wx4 pB (rval M a2 k2)
            have HO0' := Lib.hid (DV_past HO0.out HOK.out hfx5 HZ1.out (rc_no 0 none 0 0))
            clear HO0
            have HO0 := HO0'
            clear HO0'
            have HZ0' := Lib.hid ((show Bk (wx4.setRow pB (rval M a2 k2)) pA (dval d s2 n2 c2 m2) 39 from ArrKit.Bk.rowOther HZ0.out _ (HPQ.out)))
            clear HZ0
            have HZ0 := HZ0'
            clear HZ0'
            have HO1' := Lib.hid (RV.pastR HO1.out hfx5 HZ1.out)
            clear HO1
            have HO1 := HO1'
            clear HO1'
            have HX1' : Hid (Bk (wx4.setRow pB (rval M a2 k2)) pB (rval M a2 k2) 24) := Lib.hid (ArrKit.Bk.row HZ1.out _)
            clear HZ1
            have HZ1 := HX1'
            clear HX1'
            refine hK.out _ _ (ArrKit.Fr.row hHeld5 _ _ (.inl HLO1.out)) (fun hHeld6 => ?_)
            clear hK K hHeld5
            clear hfx5
            generalize (wx4.setRow pB (rval M a2 k2)) = wx5 at *
            change wpAnyH _ _ _ _ _ 0 #[true, true, true, true, true, true, true, true] _ _
            refine wpAnyH_done (by kernel_rfl) ?_ _
            refine NoPanic.normal ?_
            have HEND := Lib.hid hHeld6
            clear hHeld6
            exact HREST.out wx5 pA pB s2 n2 c2 m2 a2 k2 HEND.out ⟨HZ0.out, HO0.out⟩ HZ1.out HO1.out HPQ.out HLO0.out HLO1.out
        · simp only [List.getElem_toArray, List.getElem_cons_succ, List.getElem_cons_zero]
          refine (if_pos (by kernel_rfl)).mpr ?_
          go_wp2_with fail
          have hfx1 : Fr (fun _ => False) wx0 (wx0.alloc (.cells RZ 24)) := Fr.alloc (Fr.refl _ _) _
          have HLO1 : Hid (wr.heap.size ≤ wx0.heap.size) := Lib.hid (Fr.size hHeld1)
          have HO0' := Lib.hid (DV.keep HO0.out hfx1)
          clear HO0
          have HO0 := HO0'
          clear HO0'
          have HZ1 : Hid (Bk (wx0.alloc (.cells RZ 24)) wx0.heap.size RZ 24) := Lib.hid (Bk.new wx0 _)
          have HB1 : Hid (wx0.heap.size < (wx0.alloc (.cells RZ 24)).heap.size) := Lib.hid (Bk.lt HZ1.out)
          refine hK.out _ _ (hHeld1.then0 hfx1) (fun hHeld2 => ?_)
          clear hK K hHeld1
          clear hfx1
          generalize wx0.heap.size = pB at *
          generalize (wx0.alloc (.cells RZ 24)) = wx1 at *
          change wpAnyH _ _ _ _ _ 4 #[true, true, true, false, false, true, false, false] _ _
          refine wpAnyH_ready (rs := [3, 4]) (by kernel_rfl) (by simp) ?_
          refine AllReadyH.cons rfl (fun K hK => ?_) (AllReadyH.cons rfl (fun K hK => ?_) (AllReadyH.nil))
          · simp only [List.getElem_toArray, List.getElem_cons_succ, List.getElem_cons_zero]
            refine (if_pos (by kernel_rfl)).mpr ?_
            go_wp2_with fail
            refine (HRC.out _ _ _ (HMV7.out.keep hHeld2)).mono ?_
            rintro e wx2 ⟨a2, k2, rfl, hown1, hfx2⟩
            dsimp only
            have HO0' := Lib.hid (DV.keep HO0.out hfx2)
            clear HO0
            have HO0 := HO0'
            clear HO0'
            have HZ1' := Lib.hid (hfx2.keep HZ1.out (fun h => h))
            clear HZ1
            have HZ1 := HZ1'
            clear HZ1'
            have HO1 := Lib.hid hown1
            clear hown1
            have HB1' : Hid (pB < wx2.heap.size) := Lib.hid (Bk.lt HZ1.out)
            clear HB1
            have HB1 := HB1'
            clear HB1'
            refine hK.out _ _ (hHeld2.then0 hfx2) (fun hHeld3 => ?_)
            clear hK K hHeld2
            clear hfx2
            change wpAnyH _ _ _ _ _ 3 #[true, true, true, true, false, true, false, false] _ _
            refine wpAnyH_ready (rs := [4]) (by kernel_rfl) (by simp) ?_
            refine AllReadyH.cons rfl (fun K hK => ?_) AllReadyH.nil
            simp only [List.getElem_toArray, List.getElem_cons_succ, List.getElem_cons_zero]
            refine (if_pos (by kernel_rfl)).mpr ?_
            go_wp2_with fail
            have hfx3 : Fr (fun _ => False) wx2 (wx2.alloc (.cells DZ 39)) := Fr.alloc (Fr.refl _ _) _
            have HLO0 : Hid (wr.heap.size ≤ wx2.heap.size) := Lib.hid (Fr.size hHeld3)
            have HPQ : Hid (wx2.heap.size ≠ pB) := Lib.hid (by have h1 := Bk.lt HZ1.out; omega)
            have HO0' := Lib.hid (DV.keep HO0.out hfx3)
            clear HO0
            have HO0 := HO0'
            clear HO0'
            have HZ1' := Lib.hid (hfx3.keep HZ1.out (fun h => h))
            clear HZ1
            have HZ1 := HZ1'
            clear HZ1'
            have HO1' := Lib.hid (RV.keep HO1.out hfx3)
            clear HO1
            have HO1 := HO1'
            clear HO1'
            have HZ0 : Hid (Bk (wx2.alloc (.cells DZ 39)) wx2.heap.size DZ 39) := Lib.hid (Bk.new wx2 _)
            have HB0 : Hid (wx2.heap.size < (wx2.alloc (.cells DZ 39)).heap.size) := Lib.hid (Bk.lt HZ0.out)
            have HB1' : Hid (pB < (wx2.alloc (.cells DZ 39)).heap.size) := Lib.hid (Bk.lt HZ1.out)
            clear HB1
            have HB1 := HB1'
            clear HB1'
            refine hK.out _ _ (hHeld3.then0 hfx3) (fun hHeld4 => ?_)
            clear hK K hHeld3
            clear hfx3
            generalize wx2.heap.size = pA at *
            generalize (wx2.alloc (.cells DZ 39)) = wx3 at *
            change wpAnyH _ _ _ _ _ 2 #[true, true, true, true, true, true, false, false] _ _
            refine wpAnyH_ready (rs := [6]) (by kernel_rfl) (by simp) ?_
            refine AllReadyH.cons rfl (fun K hK => ?_) AllReadyH.nil
            simp only [List.getElem_toArray, List.getElem_cons_succ, List.getElem_cons_zero]
            refine (if_pos (by kernel_rfl)).mpr ?_
            refine wp_store_row 39 _ _ rfl pA (dval d s2 n2 c2 m2) rfl rfl 39 DZ HZ0.out (HID.out _ _ _ _ _) rfl (HDO.out _ _ _ _ _) ?_
            have hfx4 := Fr.row1 wx3 pA (dval d s2 n2 c2 m2)
            have HO0' := Lib.hid (DV.past HO0.out HOK.out hfx4 HZ0.out DZ_no)
            clear HO0
            have HO0 := HO0'
            clear HO0'
            have HZ1' := Lib.hid ((show Bk (wx3.setRow pA (dval d s2 n2 c2 m2)) pB RZ 24 from ArrKit.Bk.rowOther HZ1.out _ (HPQ.out.symm)))
            clear HZ1
            have HZ1 := HZ1'
            clear HZ1'
            have HO1' := Lib.hid (RV.past HO1.out hfx4 (show Bk _ _ (dval ⟨[], [], 0, false⟩ none 0 none 0) 39 from HZ0.out))
            clear HO1
            have HO1 := HO1'
            clear HO1'
            have HX0' : Hid (Bk (wx3.setRow pA (dval d s2 n2 c2 m2)) pA (dval d s2 n2 c2 m2) 39) := Lib.hid (ArrKit.Bk.row HZ0.out _)
            clear HZ0
            have HZ0 := HX0'
            clear HX0'
            refine hK.out _ _ (ArrKit.Fr.row hHeld4 _ _ (.inl HLO0.out)) (fun hHeld5 => ?_)
            clear hK K hHeld4
            clear hfx4
            generalize (wx3.setRow pA (dval d s2 n2 c2 m2)) = wx4 at *
            change wpAnyH _ _ _ _ _ 1 #[true, true, true, true, true, true, true, false] _ _
            refine wpAnyH_ready (rs := [7]) (by kernel_rfl) (by simp) ?_
            refine AllReadyH.cons rfl (fun K hK => ?_) AllReadyH.nil
            simp only [List.getElem_toArray, List.getElem_cons_succ, List.getElem_cons_zero]
            refine (if_pos (by kernel_rfl)).mpr ?_
            refine wp_store_row 24 _ _ rfl pB (rval M a2 k2) rfl rfl 24 RZ HZ1.out (HIR.out _ _ _) rfl (HRO.out _ _ _) ?_
            have hfx5 := Fr.row1 wx4 pB (rval M a2 k2)
            have HO0' := Lib.hid (DV_past HO0.out HOK.out hfx5 HZ1.out (rc_no 0 none 0 0))
            clear HO0
            have HO0 := HO0'
            clear HO0'
            have HO1' := Lib.hid (RV.pastR HO1.out hfx5 HZ1.out)
            clear HO1
            have HO1 := HO1'
            clear HO1'
            have HZ0' := Lib.hid ((show Bk (wx4.setRow pB (rval M a2 k2)) pA (dval d s2 n2 c2 m2) 39 from ArrKit.Bk.rowOther HZ0.out _ (HPQ.out)))
            clear HZ0
            have HZ0 := HZ0'
            clear HZ0'
            have HX1' : Hid (Bk (wx4.setRow pB (rval M a2 k2)) pB (rval M a2 k2) 24) := Lib.hid (ArrKit.Bk.row HZ1.out _)
            clear HZ1
            have HZ1 := HX1'
            clear HX1'
            refine hK.out _ _ (ArrKit.Fr.row hHeld5 _ _ (.inl HLO1.out)) (fun hHeld6 => ?_)
            clear hK K hHeld5
            clear hfx5
            generalize (wx4.setRow pB (rval M a2 k2)) = wx5 at *
            change wpAnyH _ _ _ _ _ 0 #[true, true, true, true, true, true, true, true] _ _
            refine wpAnyH_done (by kernel_rfl) ?_ _
            refine NoPanic.normal ?_
            have HEND := Lib.hid hHeld6
            clear hHeld6
            exact HREST.out wx5 pA pB s2 n2 c2 m2 a2 k2 HEND.out ⟨HZ0.out, HO0.out⟩ HZ1.out HO1.out HPQ.out HLO0.out HLO1.out
          · simp only [List.getElem_toArray, List.getElem_cons_succ, List.getElem_cons_zero]
            refine (if_pos (by kernel_rfl)).mpr ?_
            go_wp2_with fail
            have hfx2 : Fr (fun _ => False) wx1 (wx1.alloc (.cells DZ 39)) := Fr.alloc (Fr.refl _ _) _
            have HLO0 : Hid (wr.heap.size ≤ wx1.heap.size) := Lib.hid (Fr.size hHeld2)
            have HPQ : Hid (wx1.heap.size ≠ pB) := Lib.hid (by have h1 := Bk.lt HZ1.out; omega)
            have HO0' := Lib.hid (DV.keep HO0.out hfx2)
            clear HO0
            have HO0 := HO0'
            clear HO0'
            have HZ1' := Lib.hid (hfx2.keep HZ1.out (fun h => h))
            clear HZ1
            have HZ1 := HZ1'
            clear HZ1'
            have HZ0 : Hid (Bk (wx1.alloc (.cells DZ 39)) wx1.heap.size DZ 39) := Lib.hid (Bk.new wx1 _)
            have HB0 : Hid (wx1.heap.size < (wx1.alloc (.cells DZ 39)).heap.size) := Lib.hid (Bk.lt HZ0.out)
            have HB1' : Hid (pB < (wx1.alloc (.cells DZ 39)).heap.size) := Lib.hid (Bk.lt HZ1.out)
            clear HB1
            have HB1 := HB1'
            clear HB1'
            refine hK.out _ _ (hHeld2.then0 hfx2) (fun hHeld3 => ?_)
            clear hK K hHeld2
            clear hfx2
            generalize wx1.heap.size = pA at *
            generalize (wx1.alloc (.cells DZ 39)) = wx2 at *
            change wpAnyH _ _ _ _ _ 3 #[true, true, true, false, true, true, false, false] _ _
            refine wpAnyH_ready (rs := [3]) (by kernel_rfl) (by simp) ?_
            refine AllReadyH.cons rfl (fun K hK => ?_) AllReadyH.nil
            simp only [List.getElem_toArray, List.getElem_cons_succ, List.getElem_cons_zero]
            refine (if_pos (by kernel_rfl)).mpr ?_
            go_wp2_with fail
            refine (HRC.out _ _ _ (HMV7.out.keep hHeld3)).mono ?_
            rintro e wx3 ⟨a2, k2, rfl, hown1, hfx3⟩
            dsimp only
            have HO0' := Lib.hid (DV.keep HO0.out hfx3)
            clear HO0
            have HO0 := HO0'
            clear HO0'
            have HZ1' := Lib.hid (hfx3.keep HZ1.out (fun h => h))
            clear HZ1
            have HZ1 := HZ1'
            clear HZ1'
            have HZ0' := Lib.hid (hfx3.keep HZ0.out (fun h => h))
            clear HZ0
            have HZ0 := HZ0'
            clear HZ0'
            have HO1 := Lib.hid hown1
            clear hown1
            have HB0' : Hid (pA < wx3.heap.size) := Lib.hid (Bk.lt HZ0.out)
            clear HB0
            have HB0 := HB0'
            clear HB0'
            have HB1' : Hid (pB < wx3.heap.size) := Lib.hid (Bk.lt HZ1.out)
            clear HB1
            have HB1 := HB1'
            clear HB1'
            refine hK.out _ _ (hHeld3.then0 hfx3) (fun hHeld4 => ?_)
            clear hK K hHeld3
            clear hfx3
            change wpAnyH _ _ _ _ _ 2 #[true, true, true, true, true, true, false, false] _ _
            refine wpAnyH_ready (rs := [6]) (by kernel_rfl) (by simp) ?_
            refine AllReadyH.cons rfl (fun K hK => ?_) AllReadyH.nil
            simp only [List.getElem_toArray, List.getElem_cons_succ, List.getElem_cons_zero]
            refine (if_pos (by kernel_rfl)).mpr ?_
            refine wp_store_row 39 _ _ rfl pA (dval d s2 n2 c2 m2) rfl rfl 39 DZ HZ0.out (HID.out _ _ _ _ _) rfl (HDO.out _ _ _ _ _) ?_
            have hfx4 := Fr.row1 wx3 pA (dval d s2 n2 c2 m2)
            have HO0' := Lib.hid (DV.past HO0.out HOK.out hfx4 HZ0.out DZ_no)
            clear HO0
            have HO0 := HO0'
            clear HO0'
            have HZ1' := Lib.hid ((show Bk (wx3.setRow pA (dval d s2 n2 c2 m2)) pB RZ 24 from ArrKit.Bk.rowOther HZ1.out _ (HPQ.out.symm)))
            clear HZ1
            have HZ1 := HZ1'
            clear HZ1'
            have HO1' := Lib.hid (RV.past HO1.out hfx4 (show Bk _ _ (dval ⟨[], [], 0, false⟩ none 0 none 0) 39 from HZ0.out))
            clear HO1
            have HO1 := HO1'
            clear HO1'
            have HX0' : Hid (Bk (wx3.setRow pA (dval d s2 n2 c2 m2)) pA (dval d s2 n2 c2 m2) 39) := Lib.hid (ArrKit.Bk.row HZ0.out _)
            clear HZ0
            have HZ0 := HX0'
            clear HX0'
            refine hK.out _ _ (ArrKit.Fr.row hHeld4 _ _ (.inl HLO0.out)) (fun hHeld5 => ?_)
            clear hK K hHeld4
            clear hfx4
            generalize (wx3.setRow pA (dval d s2 n2 c2 m2)) = wx4 at *
            change wpAnyH _ _ _ _ _ 1 #[true, true, true, true, true, true, true, false] _ _
            refine wpAnyH_ready (rs := [7]) (by kernel_rfl) (by simp) ?_
            refine AllReadyH.cons rfl (fun K hK => ?_) AllReadyH.nil
            simp only [List.getElem_toArray, List.getElem_cons_succ, List.getElem_cons_zero]
            refine (if_pos (by kernel_rfl)).mpr ?_
            refine wp_store_row 24 _ _ rfl pB (rval M a2 k2) rfl rfl 24 RZ HZ1.out (HIR.out _ _ _) rfl (HRO.out _ _ _) ?_
            have hfx5 := Fr.row1 wx4 pB (rval M a2 k2)
            have HO0' := Lib.hid (DV_past HO0.out HOK.out hfx5 HZ1.out (rc_no 0 none 0 0))
            clear HO0
            have HO0 := HO0'
            clear HO0'
            have HZ0' := Lib.hid ((show Bk (wx4.setRow pB (rval M a2 k2)) pA (dval d s2 n2 c2 m2) 39 from ArrKit.Bk.rowOther HZ0.out _ (HPQ.out)))
            clear HZ0
            have HZ0 := HZ0'
            clear HZ0'
            have HO1' := Lib.hid (RV.pastR HO1.out hfx5 HZ1.out)
            clear HO1
            have HO1 := HO1'
            clear HO1'
            have HX1' : Hid (Bk (wx4.setRow pB (rval M a2 k2)) pB (rval M a2 k2) 24) := Lib.hid (ArrKit.Bk.row HZ1.out _)
            clear HZ1
            have HZ1 := HX1'
            clear HX1'
            refine hK.out _ _ (ArrKit.Fr.row hHeld5 _ _ (.inl HLO1.out)) (fun hHeld6 => ?_)
            clear hK K hHeld5
            clear hfx5
            generalize (wx4.setRow pB (rval M a2 k2)) = wx5 at *
            change wpAnyH _ _ _ _ _ 0 #[true, true, true, true, true, true, true, true] _ _
            refine wpAnyH_done (by kernel_rfl) ?_ _
            refine NoPanic.normal ?_
            have HEND := Lib.hid hHeld6
            clear hHeld6
            exact HREST.out wx5 pA pB s2 n2 c2 m2 a2 k2 HEND.out ⟨HZ0.out, HO0.out⟩ HZ1.out HO1.out HPQ.out HLO0.out HLO1.out
      · simp only [List.getElem_toArray, List.getElem_cons_succ, List.getElem_cons_zero]
        refine (if_pos (by kernel_rfl)).mpr ?_
        go_wp2_with fail
        have hfx0 : Fr (fun _ => False) wd (wd.alloc (.cells DZ 39)) := Fr.alloc (Fr.refl _ _) _
        have HLO0 : Hid (wr.heap.size ≤ wd.heap.size) := Lib.hid (Fr.size hHeld0)
        have HZ0 : Hid (Bk (wd.alloc (.cells DZ 39)) wd.heap.size DZ 39) := Lib.hid (Bk.new wd _)
        have HB0 : Hid (wd.heap.size < (wd.alloc (.cells DZ 39)).heap.size) := Lib.hid (Bk.lt HZ0.out)
        refine hK.out _ _ (hHeld0.then0 hfx0) (fun hHeld1 => ?_)
        clear hK K hHeld0
        clear hfx0
        generalize wd.heap.size = pA at *
        generalize (wd.alloc (.cells DZ 39)) = wx0 at *
        change wpAnyH _ _ _ _ _ 5 #[true, false, true, false, true, false, false, false] _ _
        refine wpAnyH_ready (rs := [1, 5]) (by kernel_rfl) (by simp) ?_
        refine AllReadyH.cons rfl (fun K hK => ?_) (AllReadyH.cons rfl (fun K hK => ?_) (AllReadyH.nil))
        · simp only [List.getElem_toArray, List.getElem_cons_succ, List.getElem_cons_zero]
          refine (if_pos (by kernel_rfl)).mpr ?_
          go_wp2_with fail
          refine (HDC.out _ _ _ _ _ (HV7.out.keep hHeld1)).mono ?_
          rintro e wx1 ⟨s2, n2, c2, m2, rfl, hown0, hfx1⟩
          dsimp only
          have HZ0' := Lib.hid (hfx1.keep HZ0.out (fun h => h))
          clear HZ0
          have HZ0 := HZ0'
          clear HZ0'
          have HO0 := Lib.hid hown0
          clear hown0
          have HB0' : Hid (pA < wx1.heap.size) := Lib.hid (Bk.lt HZ0.out)
          clear HB0
          have HB0 := HB0'
          clear HB0'
          refine hK.out _ _ (hHeld1.then0 hfx1) (fun hHeld2 => ?_)
          clear hK K hHeld1
          clear hfx1
          change wpAnyH _ _ _ _ _ 4 #[true, true, true, false, true, false, false, false] _ _
          refine wpAnyH_ready (rs := [3, 5]) (by kernel_rfl) (by simp) ?_
          refine AllReadyH.cons rfl (fun K hK => ?_) (AllReadyH.cons rfl (fun K hK => ?_) (AllReadyH.nil))
          · simp only [List.getElem_toArray, List.getElem_cons_succ, List.getElem_cons_zero]
            refine (if_pos (by kernel_rfl)).mpr ?_
            go_wp2_with fail
            refine (HRC.out _ _ _ (HMV7.out.keep hHeld2)).mono ?_
            rintro e wx2 ⟨a2, k2, rfl, hown1, hfx2⟩
            dsimp only
            have HZ0' := Lib.hid (hfx2.keep HZ0.out (fun h => h))
            clear HZ0
            have HZ0 := HZ0'
            clear HZ0'
            have HO0' := Lib.hid (DV.keep HO0.out hfx2)
            clear HO0
            have HO0 := HO0'
            clear HO0'
            have HO1 := Lib.hid hown1
            clear hown1
            have HB0' : Hid (pA < wx2.heap.size) := Lib.hid (Bk.lt HZ0.out)
            clear HB0
            have HB0 := HB0'
            clear HB0'
            refine hK.out _ _ (hHeld2.then0 hfx2) (fun hHeld3 => ?_)
            clear hK K hHeld2
            clear hfx2
            change wpAnyH _ _ _ _ _ 3 #[true, true, true, true, true, false, false, false] _ _
            refine wpAnyH_ready (rs := [5]) (by kernel_rfl) (by simp) ?_
            refine AllReadyH.cons rfl (fun K hK => ?_) AllReadyH.nil
            simp only [List.getElem_toArray, List.getElem_cons_succ, List.getElem_cons_zero]
            refine (if_pos (by kernel_rfl)).mpr ?_
            go_wp2_with fail
            have hfx3 : Fr (fun _ => False) wx2 (wx2.alloc (.cells RZ 24)) := Fr.alloc (Fr.refl _ _) _
            have HLO1 : Hid (wr.heap.size ≤ wx2.heap.size) := Lib.hid (Fr.size hHeld3)
            have HPQ : Hid (pA ≠ wx2.heap.size) := Lib.hid (by have h1 := Bk.lt HZ0.out; omega)
            have HZ0' := Lib.hid (hfx3.keep HZ0.out (fun h => h))
            clear HZ0
            have HZ0 := HZ0'
            clear HZ0'
            have HO0' := Lib.hid (DV.keep HO0.out hfx3)
            clear HO0
            have HO0 := HO0'
            clear HO0'
            have HO1' := Lib.hid (RV.keep HO1.out hfx3)
            clear HO1
            have HO1 := HO1'
            clear HO1'
            have HZ1 : Hid (Bk (wx2.alloc (.cells RZ 24)) wx2.heap.size RZ 24) := Lib.hid (Bk.new wx2 _)
            have HB1 : Hid (wx2.heap.size < (wx2.alloc (.cells RZ 24)).heap.size) := Lib.hid (Bk.lt HZ1.out)
            have HB0' : Hid (pA < (wx2.alloc (.cells RZ 24)).heap.size) := Lib.hid (Bk.lt HZ0.out)
            clear HB0
            have HB0 := HB0'
            clear HB0'
            refine hK.out _ _ (hHeld3.then0 hfx3) (fun hHeld4 => ?_)
            clear hK K hHeld3
            clear hfx3
            generalize wx2.heap.size = pB at *
            generalize (wx2.alloc (.cells RZ 24)) = wx3 at *
            change wpAnyH _ _ _ _ _ 2 #[true, true, true, true, true, true, false, false] _ _
            refine wpAnyH_ready (rs := [6]) (by kernel_rfl) (by simp) ?_
            refine AllReadyH.cons rfl (fun K hK => ?_) AllReadyH.nil
            simp only [List.getElem_toArray, List.getElem_cons_succ, List.getElem_cons_zero]
            refine (if_pos (by kernel_rfl)).mpr ?_
            refine wp_store_row 39 _ _ rfl pA (dval d s2 n2 c2 m2) rfl rfl 39 DZ HZ0.out (HID.out _ _ _ _ _) rfl (HDO.out _ _ _ _ _) ?_
            have hfx4 := Fr.row1 wx3 pA (dval d s2 n2 c2 m2)
            have HO0' := Lib.hid (DV.past HO0.out HOK.out hfx4 HZ0.out DZ_no)
            clear HO0
            have HO0 := HO0'
            clear HO0'
            have HO1' := Lib.hid (RV.past HO1.out hfx4 (show Bk _ _ (dval ⟨[], [], 0, false⟩ none 0 none 0) 39 from HZ0.out))
            clear HO1
            have HO1 := HO1'
            clear HO1'
            have HZ1' := Lib.hid ((show Bk (wx3.setRow pA (dval d s2 n2 c2 m2)) pB RZ 24 from ArrKit.Bk.rowOther HZ1.out _ (HPQ.out.symm)))
            clear HZ1
            have HZ1 := HZ1'
            clear HZ1'
            have HX0' : Hid (Bk (wx3.setRow pA (dval d s2 n2 c2 m2)) pA (dval d s2 n2 c2 m2) 39) := Lib.hid (ArrKit.Bk.row HZ0.out _)
            clear HZ0
            have HZ0 := HX0'
            clear HX0'
            refine hK.out _ _ (ArrKit.Fr.row hHeld4 _ _ (.inl HLO0.out)) (fun hHeld5 => ?_)
            clear hK K hHeld4
            clear hfx4
            generalize (wx3.setRow pA (dval d s2 n2 c2 m2)) = wx4 at *
            change wpAnyH _ _ _ _ _ 1 #[true, true, true, true, true, true, true, false] _ _
            refine wpAnyH_ready (rs := [7]) (by kernel_rfl) (by simp) ?_
            refine AllReadyH.cons rfl (fun K hK => ?_) AllReadyH.nil
            simp only [List.getElem_toArray, List.getElem_cons_succ, List.getElem_cons_zero]
            refine (if_pos (by kernel_rfl)).mpr ?_
            refine wp_store_row 24 _ _ rfl pB (rval M a2 k2) rfl rfl 24 RZ HZ1.out (HIR.out _ _ _) rfl (HRO.out _ _ _) ?_
            have hfx5 := Fr.row1 wx4 pB (rval M a2 k2)
            have HZ0' := Lib.hid ((show Bk (wx4.setRow pB (rval M a2 k2)) pA (dval d s2 n2 c2 m2) 39 from ArrKit.Bk.rowOther HZ0.out _ (HPQ.out)))
            clear HZ0
            have HZ0 := HZ0'
            clear HZ0'
            have HO0' := Lib.hid (DV_past HO0.out HOK.out hfx5 HZ1.out (rc_no 0 none 0 0))
            clear HO0
            have HO0 := HO0'
            clear HO0'
            have HO1' := Lib.hid (RV.pastR HO1.out hfx5 HZ1.out)
            clear HO1
            have HO1 := HO1'
            clear HO1'
            have HX1' : Hid (Bk (wx4.setRow pB (rval M a2 k2)) pB (rval M a2 k2) 24) := Lib.hid (ArrKit.Bk.row HZ1.out _)
            clear HZ1
            have HZ1 := HX1'
            clear HX1'
            refine hK.out _ _ (ArrKit.Fr.row hHeld5 _ _ (.inl HLO1.out)) (fun hHeld6 => ?_)
            clear hK K hHeld5
            clear hfx5
            generalize (wx4.setRow pB (rval M a2 k2)) = wx5 at *
            change wpAnyH _ _ _ _ _ 0 #[true, true, true, true, true, true, true, true] _ _
            refine wpAnyH_done (by kernel_rfl) ?_ _
            refine NoPanic.normal ?_
            have HEND := Lib.hid hHeld6
            clear hHeld6
            exact HREST.out wx5 pA pB s2 n2 c2 m2 a2 k2 HEND.out ⟨HZ0.out, HO0.out⟩ HZ1.out HO1.out HPQ.out HLO0.out HLO1.out
          · simp only [List.getElem_toArray, List.getElem_cons_succ, List.getElem_cons_zero]
            refine (if_pos (by kernel_rfl)).mpr ?_
            go_wp2_with fail
            have hfx2 : Fr (fun _ => False) wx1 (wx1.alloc (.cells RZ 24)) := Fr.alloc (Fr.refl _ _) _
            have HLO1 : Hid (wr.heap.size ≤ wx1.heap.size) := Lib.hid (Fr.size hHeld2)
            have HPQ : Hid (pA ≠ wx1.heap.size) := Lib.hid (by have h1 := Bk.lt HZ0.out; omega)
            have HZ0' := Lib.hid (hfx2.keep HZ0.out (fun h => h))
            clear HZ0
            have HZ0 := HZ0'
            clear HZ0'
            have HO0' := Lib.hid (DV.keep HO0.out hfx2)
            clear HO0
            have HO0 := HO0'
            clear HO0'
            have HZ1 : Hid (Bk (wx1.alloc (.cells RZ 24)) wx1.heap.size RZ 24) := Lib.hid (Bk.new wx1 _)
            have HB1 : Hid (wx1.heap.size < (wx1.alloc (.cells RZ 24)).heap.size) := Lib.hid (Bk.lt HZ1.out)
            have HB0' : Hid (pA < (wx1.alloc (.cells RZ 24)).heap.size) := Lib.hid (Bk.lt HZ0.out)
            clear HB0
            have HB0 := HB0'
            clear HB0'
            refine hK.out _ _ (hHeld2.then0 hfx2) (fun hHeld3 => ?_)
            clear hK K hHeld2
            clear hfx2
            generalize wx1.heap.size = pB at *
            generalize (wx1.alloc (.cells RZ 24)) = wx2 at *
            change wpAnyH _ _ _ _ _ 3 #[true, true, true, false, true, true, false, false] _ _
            refine wpAnyH_ready (rs := [3]) (by kernel_rfl) (by simp) ?_
            refine AllReadyH.cons rfl (fun K hK => ?_) AllReadyH.nil
            simp only [List.getElem_toArray, List.getElem_cons_succ, List.getElem_cons_zero]
            refine (if_pos (by kernel_rfl)).mpr ?_
            go_wp2_with fail
            refine (HRC.out _ _ _ (HMV7.out.keep hHeld3)).mono ?_
            rintro e wx3 ⟨a2, k2, rfl, hown1, hfx3⟩
            dsimp only
            have HZ0' := Lib.hid (hfx3.keep HZ0.out (fun h => h))
            clear HZ0
            have HZ0 := HZ0'
            clear HZ0'
            have HO0' := Lib.hid (DV.keep HO0.out hfx3)
            clear HO0
            have HO0 := HO0'
            clear HO0'
            have HZ1' := Lib.hid (hfx3.keep HZ1.out (fun h => h))
            clear HZ1
            have HZ1 := HZ1'
            clear HZ1'
            have HO1 := Lib.hid hown1
            clear hown1
            have HB0' : Hid (pA < wx3.heap.size) := Lib.hid (Bk.lt HZ0.out)
            clear HB0
            have HB0 := HB0'
            clear HB0'
            have HB1' : Hid (pB < wx3.heap.size) := Lib.hid (Bk.lt HZ1.out)
            clear HB1
            have HB1 := HB1'
            clear HB1'
            refine hK.out _ _ (hHeld3.then0 hfx3) (fun hHeld4 => ?_)
            clear hK K hHeld3
            clear hfx3
            change wpAnyH _ _ _ _ _ 2 #[true, true, true, true, true, true, false, false] _ _
            refine wpAnyH_ready (rs := [6]) (by kernel_rfl) (by simp) ?_
            refine AllReadyH.cons rfl (fun K hK => ?_) AllReadyH.nil
            simp only [List.getElem_toArray, List.getElem_cons_succ, List.getElem_cons_zero]
            refine (if_pos (by kernel_rfl)).mpr ?_
            refine wp_store_row 39 _ _ rfl pA (dval d s2 n2 c2 m2) rfl rfl 39 DZ HZ0.out (HID.out _ _ _ _ _) rfl (HDO.out _ _ _ _ _) ?_
            have hfx4 := Fr.row1 wx3 pA (dval d s2 n2 c2 m2)
            have HO0' := Lib.hid (DV.past HO0.out HOK.out hfx4 HZ0.out DZ_no)
            clear HO0
            have HO0 := HO0'
            clear HO0'
            have HZ1' := Lib.hid ((show Bk (wx3.setRow pA (dval d s2 n2 c2 m2)) pB RZ 24 from ArrKit.Bk.rowOther HZ1.out _ (HPQ.out.symm)))
            clear HZ1
            have HZ1 := HZ1'
            clear HZ1'
            have HO1' := Lib.hid (RV.past HO1.out hfx4 (show Bk _ _ (dval ⟨[], [], 0, false⟩ none 0 none 0) 39 from HZ0.out))
            clear HO1
            have HO1 := HO1'
            clear HO1'
            have HX0' : Hid (Bk (wx3.setRow pA (dval d s2 n2 c2 m2)) pA (dval d s2 n2 c2 m2) 39) := Lib.hid (ArrKit.Bk.row HZ0.out _)
            clear HZ0
            have HZ0 := HX0'
            clear HX0'
            refine hK.out _ _ (ArrKit.Fr.row hHeld4 _ _ (.inl HLO0.out)) (fun hHeld5 => ?_)
            clear hK K hHeld4
            clear hfx4
            generalize (wx3.setRow pA (dval d s2 n2 c2 m2)) = wx4 at *
            change wpAnyH _ _ _ _ _ 1 #[true, true, true, true, true, true, true, false] _ _
            refine wpAnyH_ready (rs := [7]) (by kernel_rfl) (by simp) ?_
            refine AllReadyH.cons rfl (fun K hK => ?_) AllReadyH.nil
            simp only [List.getElem_toArray, List.getElem_cons_succ, List.getElem_cons_zero]
            refine (if_pos (by kernel_rfl)).mpr ?_
            refine wp_store_row 24 _ _ rfl pB (rval M a2 k2) rfl rfl 24 RZ HZ1.out (HIR.out _ _ _) rfl (HRO.out _ _ _) ?_
            have hfx5 := Fr.row1 wx4 pB (rval M a2 k2)
            have HZ0' := Lib.hid ((show Bk (wx4.setRow pB (rval M a2 k2)) pA (dval d s2 n2 c2 m2) 39 from ArrKit.Bk.rowOther HZ0.out _ (HPQ.out)))
            clear HZ0
            have HZ0 := HZ0'
            clear HZ0'
            have HO0' := Lib.hid (DV_past HO0.out HOK.out hfx5 HZ1.out (rc_no 0 none 0 0))
            clear HO0
            have HO0 := HO0'
            clear HO0'
            have HO1' := Lib.hid (RV.pastR HO1.out hfx5 HZ1.out)
            clear HO1
            have HO1 := HO1'
            clear HO1'
            have HX1' : Hid (Bk (wx4.setRow pB (rval M a2 k2)) pB (rval M a2 k2) 24) := Lib.hid (ArrKit.Bk.row HZ1.out _)
            clear HZ1
            have HZ1 := HX1'
            clear HX1'
            refine hK.out _ _ (ArrKit.Fr.row hHeld5 _ _ (.inl HLO1.out)) (fun hHeld6 => ?_)
            clear hK K hHeld5
            clear hfx5
            generalize (wx4.setRow pB (rval M a2 k2)) = wx5 at *
            change wpAnyH _ _ _ _ _ 0 #[true, true, true, true, true, true, true, true] _ _
            refine wpAnyH_done (by kernel_rfl) ?_ _
            refine NoPanic.normal ?_
            have HEND := Lib.hid hHeld6
            clear hHeld6
            exact HREST.out wx5 pA pB s2 n2 c2 m2 a2 k2 HEND.out ⟨HZ0.out, HO0.out⟩ HZ1.out HO1.out HPQ.out HLO0.out HLO1.out
        · simp only [List.getElem_toArray, List.getElem_cons_succ, List.getElem_cons_zero]
          refine (if_pos (by kernel_rfl)).mpr ?_
          go_wp2_with fail
          have hfx1 : Fr (fun _ => False) wx0 (wx0.alloc (.cells RZ 24)) := Fr.alloc (Fr.refl _ _) _
          have HLO1 : Hid (wr.heap.size ≤ wx0.heap.size) := Lib.hid (Fr.size hHeld1)
          have HPQ : Hid (pA ≠ wx0.heap.size) := Lib.hid (by have h1 := Bk.lt HZ0.out; omega)
          have HZ0' := Lib.hid (hfx1.keep HZ0.out (fun h => h))
          clear HZ0
          have HZ0 := HZ0'
          clear HZ0'
          have HZ1 : Hid (Bk (wx0.alloc (.cells RZ 24)) wx0.heap.size RZ 24) := Lib.hid (Bk.new wx0 _)
          have HB1 : Hid (wx0.heap.size < (wx0.alloc (.cells RZ 24)).heap.size) := Lib.hid (Bk.lt HZ1.out)
          have HB0' : Hid (pA < (wx0.alloc (.cells RZ 24)).heap.size) := Lib.hid (Bk.lt HZ0.out)
          clear HB0
          have HB0 := HB0'
          clear HB0'
          refine hK.out _ _ (hHeld1.then0 hfx1) (fun hHeld2 => ?_)
          clear hK K hHeld1
          clear hfx1
          generalize wx0.heap.size = pB at *
          generalize (wx0.alloc (.cells RZ 24)) = wx1 at *
          change wpAnyH _ _ _ _ _ 4 #[true, false, true, false, true, true, false, false] _ _
          refine wpAnyH_ready (rs := [1]) (by kernel_rfl) (by simp) ?_
          refine AllReadyH.cons rfl (fun K hK => ?_) AllReadyH.nil
          simp only [List.getElem_toArray, List.getElem_cons_succ, List.getElem_cons_zero]
          refine (if_pos (by kernel_rfl)).mpr ?_
          go_wp2_with fail
          refine (HDC.out _ _ _ _ _ (HV7.out.keep hHeld2)).mono ?_
          rintro e wx2 ⟨s2, n2, c2, m2, rfl, hown0, hfx2⟩
          dsimp only
          have HZ0' := Lib.hid (hfx2.keep HZ0.out (fun h => h))
          clear HZ0
          have HZ0 := HZ0'
          clear HZ0'
          have HZ1' := Lib.hid (hfx2.keep HZ1.out (fun h => h))
          clear HZ1
          have HZ1 := HZ1'
          clear HZ1'
          have HO0 := Lib.hid hown0
          clear hown0
          have HB0' : Hid (pA < wx2.heap.size) := Lib.hid (Bk.lt HZ0.out)
          clear HB0
          have HB0 := HB0'
          clear HB0'
          have HB1' : Hid (pB < wx2.heap.size) := Lib.hid (Bk.lt HZ1.out)
          clear HB1
          have HB1 := HB1'
          clear HB1'
          refine hK.out _ _ (hHeld2.then0 hfx2) (fun hHeld3 => ?_)
          clear hK K hHeld2
          clear hfx2
          change wpAnyH _ _ _ _ _ 3 #[true, true, true, false, true, true, false, false] _ _
          refine wpAnyH_ready (rs := [3]) (by kernel_rfl) (by simp) ?_
          refine AllReadyH.cons rfl (fun K hK => ?_) AllReadyH.nil
          simp only [List.getElem_toArray, List.getElem_cons_succ, List.getElem_cons_zero]
          refine (if_pos (by kernel_rfl)).mpr ?_
          go_wp2_with fail
          refine (HRC.out _ _ _ (HMV7.out.keep hHeld3)).mono ?_
          rintro e wx3 ⟨a2, k2, rfl, hown1, hfx3⟩
          dsimp only
          have HZ0' := Lib.hid (hfx3.keep HZ0.out (fun h => h))
          clear HZ0
          have HZ0 := HZ0'
          clear HZ0'
          have HZ1' := Lib.hid (hfx3.keep HZ1.out (fun h => h))
          clear HZ1
          have HZ1 := HZ1'
          clear HZ1'
          have HO0' := Lib.hid (DV.keep HO0.out hfx3)
          clear HO0
          have HO0 := HO0'
          clear HO0'
          have HO1 := Lib.hid hown1
          clear hown1
          have HB0' : Hid (pA < wx3.heap.size) := Lib.hid (Bk.lt HZ0.out)
          clear HB0
          have HB0 := HB0'
          clear HB0'
          have HB1' : Hid (pB < wx3.heap.size) := Lib.hid (Bk.lt HZ1.out)
          clear HB1
          have HB1 := HB1'
          clear HB1'
          refine hK.out _ _ (hHeld3.then0 hfx3) (fun hHeld4 => ?_)
          clear hK K hHeld3
          clear hfx3
          change wpAnyH _ _ _ _ _ 2 #[true, true, true, true, true, true, false, false] _ _
          refine wpAnyH_ready (rs := [6]) (by kernel_rfl) (by simp) ?_
          refine AllReadyH.cons rfl (fun K hK => ?_) AllReadyH.nil
          simp only [List.getElem_toArray, List.getElem_cons_succ, List.getElem_cons_zero]
          refine (if_pos (by kernel_rfl)).mpr ?_
          refine wp_store_row 39 _ _ rfl pA (dval d s2 n2 c2 m2) rfl rfl 39 DZ HZ0.out (HID.out _ _ _ _ _) rfl (HDO.out _ _ _ _ _) ?_
          have hfx4 := Fr.row1 wx3 pA (dval d s2 n2 c2 m2)
          have HZ1' := Lib.hid ((show Bk (wx3.setRow pA (dval d s2 n2 c2 m2)) pB RZ 24 from ArrKit.Bk.rowOther HZ1.out _ (HPQ.out.symm)))
          clear HZ1
          have HZ1 := HZ1'
          clear HZ1'
          have HO0' := Lib.hid (DV.past HO0.out HOK.out hfx4 HZ0.out DZ_no)
          clear HO0
          have HO0 := HO0'
          clear HO0'
          have HO1' := Lib.hid (RV.past HO1.out hfx4 (show Bk _ _ (dval ⟨[], [], 0, false⟩ none 0 none 0) 39 from HZ0.out))
          clear HO1
          have HO1 := HO1'
          clear HO1'
          have HX0' : Hid (Bk (wx3.setRow pA (dval d s2 n2 c2 m2)) pA (dval d s2 n2 c2 m2) 39) := Lib.hid (ArrKit.Bk.row HZ0.out _)
          clear HZ0
          have HZ0 := HX0'
          clear HX0'
          refine hK.out _ _ (ArrKit.Fr.row hHeld4 _ _ (.inl HLO0.out)) (fun hHeld5 => ?_)
          clear hK K hHeld4
          clear hfx4
          generalize (wx3.setRow pA (dval d s2 n2 c2 m2)) = wx4 at *
          change wpAnyH _ _ _ _ _ 1 #[true, true, true, true, true, true, true, false] _ _
          refine wpAnyH_ready (rs := [7]) (by kernel_rfl) (by simp) ?_
          refine AllReadyH.cons rfl (fun K hK => ?_) AllReadyH.nil
          simp only [List.getElem_toArray, List.getElem_cons_succ, List.getElem_cons_zero]
          refine (if_pos (by kernel_rfl)).mpr ?_
          refine wp_store_row 24 _ _ rfl pB (rval M a2 k2) rfl rfl 24 RZ HZ1.out (HIR.out _ _ _) rfl (HRO.out _ _ _) ?_
          have hfx5 := Fr.row1 wx4 pB (rval M a2 k2)
          have HZ0' := Lib.hid ((show Bk (wx4.setRow pB (rval M a2 k2)) pA (dval d s2 n2 c2 m2) 39 from ArrKit.Bk.rowOther HZ0.out _ (HPQ.out)))
          clear HZ0
          have HZ0 := HZ0'
          clear HZ0'
          have HO0' := Lib.hid (DV_past HO0.out HOK.out hfx5 HZ1.out (rc_no 0 none 0 0))
          clear HO0
          have HO0 := HO0'
          clear HO0'
          have HO1' := Lib.hid (RV.pastR HO1.out hfx5 HZ1.out)
          clear HO1
          have HO1 := HO1'
          clear HO1'
          have HX1' : Hid (Bk (wx4.setRow pB (rval M a2 k2)) pB (rval M a2 k2) 24) := Lib.hid (ArrKit.Bk.row HZ1.out _)
          clear HZ1
          have HZ1 := HX1'
          clear HX1'
          refine hK.out _ _ (ArrKit.Fr.row hHeld5 _ _ (.inl HLO1.out)) (fun hHeld6 => ?_)
          clear hK K hHeld5
          clear hfx5
          generalize (wx4.setRow pB (rval M a2 k2)) = wx5 at *
          change wpAnyH _ _ _ _ _ 0 #[true, true, true, true, true, true, true, true] _ _
          refine wpAnyH_done (by kernel_rfl) ?_ _
          refine NoPanic.normal ?_
          have HEND := Lib.hid hHeld6
          clear hHeld6
          exact HREST.out wx5 pA pB s2 n2 c2 m2 a2 k2 HEND.out ⟨HZ0.out, HO0.out⟩ HZ1.out HO1.out HPQ.out HLO0.out HLO1.out
      · simp only [List.getElem_toArray, List.getElem_cons_succ, List.getElem_cons_zero]
        refine (if_pos (by kernel_rfl)).mpr ?_
        go_wp2_with fail
        have hfx0 : Fr (fun _ => False) wd (wd.alloc (.cells RZ 24)) := Fr.alloc (Fr.refl _ _) _
        have HLO1 : Hid (wr.heap.size ≤ wd.heap.size) := Lib.hid (Fr.size hHeld0)
        have HZ1 : Hid (Bk (wd.alloc (.cells RZ 24)) wd.heap.size RZ 24) := Lib.hid (Bk.new wd _)
        have HB1 : Hid (wd.heap.size < (wd.alloc (.cells RZ 24)).heap.size) := Lib.hid (Bk.lt HZ1.out)
        refine hK.out _ _ (hHeld0.then0 hfx0) (fun hHeld1 => ?_)
        clear hK K hHeld0
        clear hfx0
        generalize wd.heap.size = pB at *
        generalize (wd.alloc (.cells RZ 24)) = wx0 at *
        change wpAnyH _ _ _ _ _ 5 #[true, false, true, false, false, true, false, false] _ _
        refine wpAnyH_ready (rs := [1, 4]) (by kernel_rfl) (by simp) ?_
        refine AllReadyH.cons rfl (fun K hK => ?_) (AllReadyH.cons rfl (fun K hK => ?_) (AllReadyH.nil))
        · simp only [List.getElem_toArray, List.getElem_cons_succ, List.getElem_cons_zero]
          refine (if_pos (by kernel_rfl)).mpr ?_
          go_wp2_with fail
          refine (HDC.out _ _ _ _ _ (HV7.out.keep hHeld1)).mono ?_
          rintro e wx1 ⟨s2, n2, c2, m2, rfl, hown0, hfx1⟩
          dsimp only
          have HZ1' := Lib.hid (hfx1.keep HZ1.out (fun h => h))
          clear HZ1
          have HZ1 := HZ1'
          clear HZ1'
          have HO0 := Lib.hid hown0
          clear hown0
          have HB1' : Hid (pB < wx1.heap.size) := Lib.hid (Bk.lt HZ1.out)
          clear HB1
          have HB1 := HB1'
          clear HB1'
          refine hK.out _ _ (hHeld1.then0 hfx1) (fun hHeld2 => ?_)
          clear hK K hHeld1
          clear hfx1
          change wpAnyH _ _ _ _ _ 4 #[true, true, true, false, false, true, false, false] _ _
          refine wpAnyH_ready (rs := [3, 4]) (by kernel_rfl) (by simp) ?_
          refine AllReadyH.cons rfl (fun K hK => ?_) (AllReadyH.cons rfl (fun K hK => ?_) (AllReadyH.nil))
          · simp only [List.getElem_toArray, List.getElem_cons_succ, List.getElem_cons_zero]
            refine (if_pos (by kernel_rfl)).mpr ?_
            go_wp2_with fail
            refine (HRC.out _ _ _ (HMV7.out.keep hHeld2)).mono ?_
            rintro e wx2 ⟨a2, k2, rfl, hown1, hfx2⟩
            dsimp only
            have HZ1' := Lib.hid (hfx2.keep HZ1.out (fun h => h))
            clear HZ1
            have HZ1 := HZ1'
            clear HZ1'
            have HO0' := Lib.hid (DV.keep HO0.out hfx2)
            clear HO0
            have HO0 := HO0'
            clear HO0'
            have HO1 := Lib.hid hown1
            clear hown1
            have HB1' : Hid (pB < wx2.heap.size) := Lib.hid (Bk.lt HZ1.out)
            clear HB1
            have HB1 := HB1'
            clear HB1'
            refine hK.out _ _ (hHeld2.then0 hfx2) (fun hHeld3 => ?_)
            clear hK K hHeld2
            clear hfx2
            change wpAnyH _ _ _ _ _ 3 #[true, true, true, true, false, true, false, false] _ _
            refine wpAnyH_ready (rs := [4]) (by kernel_rfl) (by simp) ?_
            refine AllReadyH.cons rfl (fun K hK => ?_) AllReadyH.nil
            simp only [List.getElem_toArray, List.getElem_cons_succ, List.getElem_cons_zero]
            refine (if_pos (by kernel_rfl)).mpr ?_
            go_wp2_with fail
            have hfx3 : Fr (fun _ => False) wx2 (wx2.alloc (.cells DZ 39)) := Fr.alloc (Fr.refl _ _) _
            have HLO0 : Hid (wr.heap.size ≤ wx2.heap.size) := Lib.hid (Fr.size hHeld3)
            have HPQ : Hid (wx2.heap.size ≠ pB) := Lib.hid (by have h1 := Bk.lt HZ1.out; omega)
            have HZ1' := Lib.hid (hfx3.keep HZ1.out (fun h => h))
            clear HZ1
            have HZ1 := HZ1'
            clear HZ1'
            have HO0' := Lib.hid (DV.keep HO0.out hfx3)
            clear HO0
            have HO0 := HO0'
            clear HO0'
            have HO1' := Lib.hid (RV.keep HO1.out hfx3)
            clear HO1
            have HO1 := HO1'
            clear HO1'
            have HZ0 : Hid (Bk (wx2.alloc (.cells DZ 39)) wx2.heap.size DZ 39) := Lib.hid (Bk.new wx2 _)
            have HB0 : Hid (wx2.heap.size < (wx2.alloc (.cells DZ 39)).heap.size) := Lib.hid (Bk.lt HZ0.out)
            have HB1' : Hid (pB < (wx2.alloc (.cells DZ 39)).heap.size) := Lib.hid (Bk.lt HZ1.out)
            clear HB1
            have HB1 := HB1'
            clear HB1'
            refine hK.out _ _ (hHeld3.then0 hfx3) (fun hHeld4 => ?_)
            clear hK K hHeld3
            clear hfx3
            generalize wx2.heap.size = pA at *
            generalize (wx2.alloc (.cells DZ 39)) = wx3 at *
            change wpAnyH _ _ _ _ _ 2 #[true, true, true, true, true, true, false, false] _ _
            refine wpAnyH_ready (rs := [6]) (by kernel_rfl) (by simp) ?_
            refine AllReadyH.cons rfl (fun K hK => ?_) AllReadyH.nil
            simp only [List.getElem_toArray, List.getElem_cons_succ, List.getElem_cons_zero]
            refine (if_pos (by kernel_rfl)).mpr ?_
            refine wp_store_row 39 _ _ rfl pA (dval d s2 n2 c2 m2) rfl rfl 39 DZ HZ0.out (HID.out _ _ _ _ _) rfl (HDO.out _ _ _ _ _) ?_
            have hfx4 := Fr.row1 wx3 pA (dval d s2 n2 c2 m2)
            have HZ1' := Lib.hid ((show Bk (wx3.setRow pA (dval d s2 n2 c2 m2)) pB RZ 24 from ArrKit.Bk.rowOther HZ1.out _ (HPQ.out.symm)))
            clear HZ1
            have HZ1 := HZ1'
            clear HZ1'
            have HO0' := Lib.hid (DV.past HO0.out HOK.out hfx4 HZ0.out DZ_no)
            clear HO0
            have HO0 := HO0'
            clear HO0'
            have HO1' := Lib.hid (RV.past HO1.out hfx4 (show Bk _ _ (dval ⟨[], [], 0, false⟩ none 0 none 0) 39 from HZ0.out))
            clear HO1
            have HO1 := HO1'
            clear HO1'
            have HX0' : Hid (Bk (wx3.setRow pA (dval d s2 n2 c2 m2)) pA (dval d s2 n2 c2 m2) 39) := Lib.hid (ArrKit.Bk.row HZ0.out _)
            clear HZ0
            have HZ0 := HX0'
            clear HX0'
            refine hK.out _ _ (ArrKit.Fr.row hHeld4 _ _ (.inl HLO0.out)) (fun hHeld5 => ?_)
            clear hK K hHeld4
            clear hfx4
            generalize (wx3.setRow pA (dval d s2 n2 c2 m2)) = wx4 at *
            change wpAnyH _ _ _ _ _ 1 #[true, true, true, true, true, true, true, false] _ _
            refine wpAnyH_ready (rs := [7]) (by kernel_rfl) (by simp) ?_
            refine AllReadyH.cons rfl (fun K hK => ?_) AllReadyH.nil
            simp only [List.getElem_toArray, List.getElem_cons_succ, List.getElem_cons_zero]
            refine (if_pos (by kernel_rfl)).mpr ?_
            refine wp_store_row 24 _ _ rfl pB (rval M a2 k2) rfl rfl 24 RZ HZ1.out (HIR.out _ _ _) rfl (HRO.out _ _ _) ?_
            have hfx5 := Fr.row1 wx4 pB (rval M a2 k2)
            have HO0' := Lib.hid (DV_past HO0.out HOK.out hfx5 HZ1.out (rc_no 0 none 0 0))
            clear HO0
            have HO0 := HO0'
            clear HO0'
            have HO1' := Lib.hid (RV.pastR HO1.out hfx5 HZ1.out)
            clear HO1
            have HO1 := HO1'
            clear HO1'
            have HZ0' := Lib.hid ((show Bk (wx4.setRow pB (rval M a2 k2)) pA (dval d s2 n2 c2 m2) 39 from ArrKit.Bk.rowOther HZ0.out _ (HPQ.out)))
            clear HZ0
            have HZ0 := HZ0'
            clear HZ0'
            have HX1' : Hid (Bk (wx4.setRow pB (rval M a2 k2)) pB (rval M a2 k2) 24) := Lib.hid (ArrKit.Bk.row HZ1.out _)
            clear HZ1
            have HZ1 := HX1'
            clear HX1'
            refine hK.out _ _ (ArrKit.Fr.row hHeld5 _ _ (.inl HLO1.out)) (fun hHeld6 => ?_)
            clear hK K hHeld5
            clear hfx5
            generalize (wx4.setRow pB (rval M a2 k2)) = wx5 at *
            change wpAnyH _ _ _ _ _ 0 #[true, true, true, true, true, true, true, true] _ _
            refine wpAnyH_done (by kernel_rfl) ?_ _
            refine NoPanic.normal ?_
            have HEND := Lib.hid hHeld6
            clear hHeld6
            exact HREST.out wx5 pA pB s2 n2 c2 m2 a2 k2 HEND.out ⟨HZ0.out, HO0.out⟩ HZ1.out HO1.out HPQ.out HLO0.out HLO1.out
          · simp only [List.getElem_toArray, List.getElem_cons_succ, List.getElem_cons_zero]
            refine (if_pos (by kernel_rfl)).mpr ?_
            go_wp2_with fail
            have hfx2 : Fr (fun _ => False) wx1 (wx1.alloc (.cells DZ 39)) := Fr.alloc (Fr.refl _ _) _
            have HLO0 : Hid (wr.heap.size ≤ wx1.heap.size) := Lib.hid (Fr.size hHeld2)
            have HPQ : Hid (wx1.heap.size ≠ pB) := Lib.hid (by have h1 := Bk.lt HZ1.out; omega)
            have HZ1' := Lib.hid (hfx2.keep HZ1.out (fun h => h))
            clear HZ1
            have HZ1 := HZ1'
            clear HZ1'
            have HO0' := Lib.hid (DV.keep HO0.out hfx2)
            clear HO0
            have HO0 := HO0'
            clear HO0'
            have HZ0 : Hid (Bk (wx1.alloc (.cells DZ 39)) wx1.heap.size DZ 39) := Lib.hid (Bk.new wx1 _)
            have HB0 : Hid (wx1.heap.size < (wx1.alloc (.cells DZ 39)).heap.size) := Lib.hid (Bk.lt HZ0.out)
            have HB1' : Hid (pB < (wx1.alloc (.cells DZ 39)).heap.size) := Lib.hid (Bk.lt HZ1.out)
            clear HB1
            have HB1 := HB1'
            clear HB1'
            refine hK.out _ _ (hHeld2.then0 hfx2) (fun hHeld3 => ?_)
            clear hK K hHeld2
            clear hfx2
            generalize wx1.heap.size = pA at *
            generalize (wx1.alloc (.cells DZ 39)) = wx2 at *
            change wpAnyH _ _ _ _ _ 3 #[true, true, true, false, true, true, false, false] _ _
            refine wpAnyH_ready (rs := [3]) (by kernel_rfl) (by simp) ?_
            refine AllReadyH.cons rfl (fun K hK => ?_) AllReadyH.nil
            simp only [List.getElem_toArray, List.getElem_cons_succ, List.getElem_cons_zero]
            refine (if_pos (by kernel_rfl)).mpr ?_
            go_wp2_with fail
            refine (HRC.out _ _ _ (HMV7.out.keep hHeld3)).mono ?_
            rintro e wx3 ⟨a2, k2, rfl, hown1, hfx3⟩
            dsimp only
            have HZ1' := Lib.hid (hfx3.keep HZ1.out (fun h => h))
            clear HZ1
            have HZ1 := HZ1'
            clear HZ1'
            have HO0' := Lib.hid (DV.keep HO0.out hfx3)
            clear HO0
            have HO0 := HO0'
            clear HO0'
            have HZ0' := Lib.hid (hfx3.keep HZ0.out (fun h => h))
            clear HZ0
            have HZ0 := HZ0'
            clear HZ0'
            have HO1 := Lib.hid hown1
            clear hown1
            have HB0' : Hid (pA < wx3.heap.size) := Lib.hid (Bk.lt HZ0.out)
            clear HB0
            have HB0 := HB0'
            clear HB0'
            have HB1' : Hid (pB < wx3.heap.size) := Lib.hid (Bk.lt HZ1.out)
            clear HB1
            have HB1 := HB1'
            clear HB1'
            refine hK.out _ _ (hHeld3.then0 hfx3) (fun hHeld4 => ?_)
            clear hK K hHeld3
            clear hfx3
            change wpAnyH _ _ _ _ _ 2 #[true, true, true, true, true, true, false, false] _ _
            refine wpAnyH_ready (rs := [6]) (by kernel_rfl) (by simp) ?_
            refine AllReadyH.cons rfl (fun K hK => ?_) AllReadyH.nil
            simp only [List.getElem_toArray, List.getElem_cons_succ, List.getElem_cons_zero]
            refine (if_pos (by kernel_rfl)).mpr ?_
            refine wp_store_row 39 _ _ rfl pA (dval d s2 n2 c2 m2) rfl rfl 39 DZ HZ0.out (HID.out _ _ _ _ _) rfl (HDO.out _ _ _ _ _) ?_
            have hfx4 := Fr.row1 wx3 pA (dval d s2 n2 c2 m2)
            have HZ1' := Lib.hid ((show Bk (wx3.setRow pA (dval d s2 n2 c2 m2)) pB RZ 24 from ArrKit.Bk.rowOther HZ1.out _ (HPQ.out.symm)))
            clear HZ1
            have HZ1 := HZ1'
            clear HZ1'
            have HO0' := Lib.hid (DV.past HO0.out HOK.out hfx4 HZ0.out DZ_no)
            clear HO0
            have HO0 := HO0'
            clear HO0'
            have HO1' := Lib.hid (RV.past HO1.out hfx4 (show Bk _ _ (dval ⟨[], [], 0, false⟩ none 0 none 0) 39 from HZ0.out))
            clear HO1
            have HO1 := HO1'
            clear HO1'
            have HX0' : Hid (Bk (wx3.setRow pA (dval d s2 n2 c2 m2)) pA (dval d s2 n2 c2 m2) 39) := Lib.hid (ArrKit.Bk.row HZ0.out _)
            clear HZ0
            have HZ0 := HX0'
            clear HX0'
            refine hK.out _ _ (ArrKit.Fr.row hHeld4 _ _ (.inl HLO0.out)) (fun hHeld5 => ?_)
            clear hK K hHeld4
            clear hfx4
            generalize (wx3.setRow pA (dval d s2 n2 c2 m2)) = wx4 at *
            change wpAnyH _ _ _ _ _ 1 #[true, true, true, true, true, true, true, false] _ _
            refine wpAnyH_ready (rs := [7]) (by kernel_rfl) (by simp) ?_
            refine AllReadyH.cons rfl (fun K hK => ?_) AllReadyH.nil
            simp only [List.getElem_toArray, List.getElem_cons_succ, List.getElem_cons_zero]
            refine (if_pos (by kernel_rfl)).mpr ?_
            refine wp_store_row 24 _ _ rfl pB (rval M a2 k2) rfl rfl 24 RZ HZ1.out (HIR.out _ _ _) rfl (HRO.out _ _ _) ?_
            have hfx5 := Fr.row1 wx4 pB (rval M a2 k2)
            have HO0' := Lib.hid (DV_past HO0.out HOK.out hfx5 HZ1.out (rc_no 0 none 0 0))
            clear HO0
            have HO0 := HO0'
            clear HO0'
            have HZ0' := Lib.hid ((show Bk (wx4.setRow pB (rval M a2 k2)) pA (dval d s2 n2 c2 m2) 39 from ArrKit.Bk.rowOther HZ0.out _ (HPQ.out)))
            clear HZ0
            have HZ0 := HZ0'
            clear HZ0'
            have HO1' := Lib.hid (RV.pastR HO1.out hfx5 HZ1.out)
            clear HO1
            have HO1 := HO1'
            clear HO1'
            have HX1' : Hid (Bk (wx4.setRow pB (rval M a2 k2)) pB (rval M a2 k2) 24) := Lib.hid (ArrKit.Bk.row HZ1.out _)
            clear HZ1
            have HZ1 := HX1'
            clear HX1'
            refine hK.out _ _ (ArrKit.Fr.row hHeld5 _ _ (.inl HLO1.out)) (fun hHeld6 => ?_)
            clear hK K hHeld5
            clear hfx5
            generalize (wx4.setRow pB (rval M a2 k2)) = wx5 at *
            change wpAnyH _ _ _ _ _ 0 #[true, true, true, true, true, true, true, true] _ _
            refine wpAnyH_done (by kernel_rfl) ?_ _
            refine NoPanic.normal ?_
            have HEND := Lib.hid hHeld6
            clear hHeld6
            exact HREST.out wx5 pA pB s2 n2 c2 m2 a2 k2 HEND.out ⟨HZ0.out, HO0.out⟩ HZ1.out HO1.out HPQ.out HLO0.out HLO1.out
        · simp only [List.getElem_toArray, List.getElem_cons_succ, List.getElem_cons_zero]
          refine (if_pos (by kernel_rfl)).mpr ?_
          go_wp2_with fail
          have hfx1 : Fr (fun _ => False) wx0 (wx0.alloc (.cells DZ 39)) := Fr.alloc (Fr.refl _ _) _
          have HLO0 : Hid (wr.heap.size ≤ wx0.heap.size) := Lib.hid (Fr.size hHeld1)
          have HPQ : Hid (wx0.heap.size ≠ pB) := Lib.hid (by have h1 := Bk.lt HZ1.out; omega)
          have HZ1' := Lib.hid (hfx1.keep HZ1.out (fun h => h))
          clear HZ1
          have HZ1 := HZ1'
          clear HZ1'
          have HZ0 : Hid (Bk (wx0.alloc (.cells DZ 39)) wx0.heap.size DZ 39) := Lib.hid (Bk.new wx0 _)
          have HB0 : Hid (wx0.heap.size < (wx0.alloc (.cells DZ 39)).heap.size) := Lib.hid (Bk.lt HZ0.out)
          have HB1' : Hid (pB < (wx0.alloc (.cells DZ 39)).heap.size) := Lib.hid (Bk.lt HZ1.out)
          clear HB1
          have HB1 := HB1'
          clear HB1'
          refine hK.out _ _ (hHeld1.then0 hfx1) (fun hHeld2 => ?_)
          clear hK K hHeld1
          clear hfx1
          generalize wx0.heap.size = pA at *
          generalize (wx0.alloc (.cells DZ 39)) = wx1 at *
          change wpAnyH _ _ _ _ _ 4 #[true, false, true, false, true, true, false, false] _ _
          refine wpAnyH_ready (rs := [1]) (by kernel_rfl) (by simp) ?_
          refine AllReadyH.cons rfl (fun K hK => ?_) AllReadyH.nil
          simp only [List.getElem_toArray, List.getElem_cons_succ, List.getElem_cons_zero]
          refine (if_pos (by kernel_rfl)).mpr ?_
          go_wp2_with fail
          refine (HDC.out _ _ _ _ _ (HV7.out.keep hHeld2)).mono ?_
          rintro e wx2 ⟨s2, n2, c2, m2, rfl, hown0, hfx2⟩
          dsimp only
          have HZ1' := Lib.hid (hfx2.keep HZ1.out (fun h => h))
          clear HZ1
          have HZ1 := HZ1'
          clear HZ1'
          have HZ0' := Lib.hid (hfx2.keep HZ0.out (fun h => h))
          clear HZ0
          have HZ0 := HZ0'
          clear HZ0'
          have HO0 := Lib.hid hown0
          clear hown0
          have HB0' : Hid (pA < wx2.heap.size) := Lib.hid (Bk.lt HZ0.out)
          clear HB0
          have HB0 := HB0'
          clear HB0'
          have HB1' : Hid (pB < wx2.heap.size) := Lib.hid (Bk.lt HZ1.out)
          clear HB1
          have HB1 := HB1'
          clear HB1'
          refine hK.out _ _ (hHeld2.then0 hfx2) (fun hHeld3 => ?_)
          clear hK K hHeld2
          clear hfx2
          change wpAnyH _ _ _ _ _ 3 #[true, true, true, false, true, true, false, false] _ _
          refine wpAnyH_ready (rs := [3]) (by kernel_rfl) (by simp) ?_
          refine AllReadyH.cons rfl (fun K hK => ?_) AllReadyH.nil
          simp only [List.getElem_toArray, List.getElem_cons_succ, List.getElem_cons_zero]
          refine (if_pos (by kernel_rfl)).mpr ?_
          go_wp2_with fail
          refine (HRC.out _ _ _ (HMV7.out.keep hHeld3)).mono ?_
          rintro e wx3 ⟨a2, k2, rfl, hown1, hfx3⟩
          dsimp only
          have HZ1' := Lib.hid (hfx3.keep HZ1.out (fun h => h))
          clear HZ1
          have HZ1 := HZ1'
          clear HZ1'
          have HZ0' := Lib.hid (hfx3.keep HZ0.out (fun h => h))
          clear HZ0
          have HZ0 := HZ0'
          clear HZ0'
          have HO0' := Lib.hid (DV.keep HO0.out hfx3)
          clear HO0
          have HO0 := HO0'
          clear HO0'
          have HO1 := Lib.hid hown1
          clear hown1
          have HB0' : Hid (pA < wx3.heap.size) := Lib.hid (Bk.lt HZ0.out)
          clear HB0
          have HB0 := HB0'
          clear HB0'
          have HB1' : Hid (pB < wx3.heap.size) := Lib.hid (Bk.lt HZ1.out)
          clear HB1
          have HB1 := HB1'
          clear HB1'
          refine hK.out _ _ (hHeld3.then0 hfx3) (fun hHeld4 => ?_)
          clear hK K hHeld3
          clear hfx3
          change wpAnyH _ _ _ _ _ 2 #[true, true, true, true, true, true, false, false] _ _
          refine wpAnyH_ready (rs := [6]) (by kernel_rfl) (by simp) ?_
          refine AllReadyH.cons rfl (fun K hK => ?_) AllReadyH.nil
          simp only [List.getElem_toArray, List.getElem_cons_succ, List.getElem_cons_zero]
          refine (if_pos (by kernel_rfl)).mpr ?_
          refine wp_store_row 39 _ _ rfl pA (dval d s2 n2 c2 m2) rfl rfl 39 DZ HZ0.out (HID.out _ _ _ _ _) rfl (HDO.out _ _ _ _ _) ?_
          have hfx4 := Fr.row1 wx3 pA (dval d s2 n2 c2 m2)
          have HZ1' := Lib.hid ((show Bk (wx3.setRow pA (dval d s2 n2 c2 m2)) pB RZ 24 from ArrKit.Bk.rowOther HZ1.out _ (HPQ.out.symm)))
          clear HZ1
          have HZ1 := HZ1'
          clear HZ1'
          have HO0' := Lib.hid (DV.past HO0.out HOK.out hfx4 HZ0.out DZ_no)
          clear HO0
          have HO0 := HO0'
          clear HO0'
          have HO1' := Lib.hid (RV.past HO1.out hfx4 (show Bk _ _ (dval ⟨[], [], 0, false⟩ none 0 none 0) 39 from HZ0.out))
          clear HO1
          have HO1 := HO1'
          clear HO1'
          have HX0' : Hid (Bk (wx3.setRow pA (dval d s2 n2 c2 m2)) pA (dval d s2 n2 c2 m2) 39) := Lib.hid (ArrKit.Bk.row HZ0.out _)
          clear HZ0
          have HZ0 := HX0'
          clear HX0'
          refine hK.out _ _ (ArrKit.Fr.row hHeld4 _ _ (.inl HLO0.out)) (fun hHeld5 => ?_)
          clear hK K hHeld4
          clear hfx4
          generalize (wx3.setRow pA (dval d s2 n2 c2 m2)) = wx4 at *
          change wpAnyH _ _ _ _ _ 1 #[true, true, true, true, true, true, true, false] _ _
          refine wpAnyH_ready (rs := [7]) (by kernel_rfl) (by simp) ?_
          refine AllReadyH.cons rfl (fun K hK => ?_) AllReadyH.nil
          simp only [List.getElem_toArray, List.getElem_cons_succ, List.getElem_cons_zero]
          refine (if_pos (by kernel_rfl)).mpr ?_
          refine wp_store_row 24 _ _ rfl pB (rval M a2 k2) rfl rfl 24 RZ HZ1.out (HIR.out _ _ _) rfl (HRO.out _ _ _) ?_
          have hfx5 := Fr.row1 wx4 pB (rval M a2 k2)
          have HZ0' := Lib.hid ((show Bk (wx4.setRow pB (rval M a2 k2)) pA (dval d s2 n2 c2 m2) 39 from ArrKit.Bk.rowOther HZ0.out _ (HPQ.out)))
          clear HZ0
          have HZ0 := HZ0'
          clear HZ0'
          have HO0' := Lib.hid (DV_past HO0.out HOK.out hfx5 HZ1.out (rc_no 0 none 0 0))
          clear HO0
          have HO0 := HO0'
          clear HO0'
          have HO1' := Lib.hid (RV.pastR HO1.out hfx5 HZ1.out)
          clear HO1
          have HO1 := HO1'
          clear HO1'
          have HX1' : Hid (Bk (wx4.setRow pB (rval M a2 k2)) pB (rval M a2 k2) 24) := Lib.hid (ArrKit.Bk.row HZ1.out _)
          clear HZ1
          have HZ1 := HX1'
          clear HX1'
          refine hK.out _ _ (ArrKit.Fr.row hHeld5 _ _ (.inl HLO1.out)) (fun hHeld6 => ?_)
          clear hK K hHeld5
          clear hfx5
          generalize (wx4.setRow pB (rval M a2 k2)) = wx5 at *
          change wpAnyH _ _ _ _ _ 0 #[true, true, true, true, true, true, true, true] _ _
          refine wpAnyH_done (by kernel_rfl) ?_ _
          refine NoPanic.normal ?_
          have HEND := Lib.hid hHeld6
          clear hHeld6
          exact HREST.out wx5 pA pB s2 n2 c2 m2 a2 k2 HEND.out ⟨HZ0.out, HO0.out⟩ HZ1.out HO1.out HPQ.out HLO0.out HLO1.out

end Go.Proofs.YtlleandelcjhjaaDoor.RmWholeLaw
