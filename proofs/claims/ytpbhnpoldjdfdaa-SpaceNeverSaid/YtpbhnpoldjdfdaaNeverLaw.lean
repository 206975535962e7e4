/- SpaceNever, walked. -/
import Derived.Test.YtpbhnpoldjdfdaaNeverDrop
set_option linter.unusedVariables false
set_option linter.unusedSimpArgs false
namespace Go.Proofs.Ytpbhnpoldjdfdaa.NeverLaw
open Go Go.RowKit Go.Proofs.Ytpbhnpoldjdfdaa.K Go.Proofs.Ytpbhnpoldjdfdaa.EqKit Go.Proofs.Ytpbhnpoldjdfdaa.ArrKit Go.Proofs.Ytpbhnpoldjdfdaa.HeldKit Go.Proofs.Ytpbhnpoldjdfdaa.GKit Go.Proofs.Ytpbhnpoldjdfdaa.GRow Go.Proofs.Ytpbhnpoldjdfdaa.SpKit Go.Proofs.Ytpbhnpoldjdfdaa.SpAsk Go.Proofs.Ytpbhnpoldjdfdaa.SpFind Go.Proofs.Ytpbhnpoldjdfdaa.SpNew Go.Proofs.Ytpbhnpoldjdfdaa.SpBecome Go.Proofs.Ytpbhnpoldjdfdaa.SpIdx Go.Proofs.Ytpbhnpoldjdfdaa.SpTake Go.Proofs.Ytpbhnpoldjdfdaa.SpPlaces Go.Proofs.Ytpbhnpoldjdfdaa.SpDrop Go.Proofs.Ytpbhnpoldjdfdaa.SpAlive Go.Proofs.Ytpbhnpoldjdfdaa.SpRow Go.Proofs.Ytpbhnpoldjdfdaa.NeverPlain Go.Proofs.Ytpbhnpoldjdfdaa.NeverKit Go.Proofs.Ytpbhnpoldjdfdaa.NeverApp Go.Proofs.Ytpbhnpoldjdfdaa.NeverTake Go.Proofs.Ytpbhnpoldjdfdaa.NeverDrop Go.Proofs.Ytpbhnpoldjdfdaa.PtrKit

set_option maxHeartbeats 16000000 in
set_option maxRecDepth 100000 in
theorem never_all (l : List UInt8) (la : Option Addr) (lc : Nat) (w : World) (h3 : l.length ≤ 300) (hrd : RdU w la l) (hlc : l.length ≤ lc) : Calls Try.prog 3 #[.slice la l.length lc] w fun e w' => e = .returned (.bool true) ∧ Fr0 w w' := by
  have hz : ∀ W, (zeroValue 26).run Try.prog W = .ok (.agg SZ) W := by intro W; kernel_rfl
  have HI : Hid (∀ g, (Try.prog.info? 26).map (·.size) = some (sval sp6 g 0 12).size) := Lib.hid (fun g => by kernel_rfl)
  have HO : Hid (∀ g, (sval sp6 g 0 12).all (·.oneCell') = true) := Lib.hid (fun g => by simp [sval, SC, Value.oneCell'])
  have HSZ : Hid (∀ g, SZ.size = (sval sp6 g 0 12).size) := Lib.hid (fun g => rfl)
  have HRD := Lib.hid hrd
  have h300 : ¬ 300 < l.length := by omega
  clear hrd
  go_enter Try.func3, Try.ntmps3
  go_wp2_with (first | (go_at_call 4; (with_reducible refine (alive_calls _).mono ?_); rintro e w1 ⟨rfl, hf1⟩; have HF1 := Lib.hid hf1; clear hf1) | (go_at_call 5; (with_reducible refine (new6_calls _).mono ?_); rintro e w2 ⟨g, rfl, hr, hf2⟩; have HZ2 := Lib.hid (Bk.new w2 (.cells SZ 26)); have HSW := Lib.hid (HF1.out.then0 hf2).size; have HF2 : Hid (Fr0 w ((w2.alloc (.cells SZ 26)).setRow w2.heap.size (sval sp6 g 0 12))) := Lib.hid (ArrKit.Fr.row (Fr.alloc (HF1.out.then0 hf2) _) _ _ (.inl HSW.out)); have HS2 : Hid (SAt ((w2.alloc (.cells SZ 26)).setRow w2.heap.size (sval sp6 g 0 12)) w2.heap.size sp6 g 0 12) := Lib.hid ⟨ArrKit.Bk.row HZ2.out _, RdG.past hr (RdG.keep hr (Fr.alloc (Fr.refl _ _) _)) (fun _ => by simp) (Fr.row1 _ w2.heap.size (sval sp6 g 0 12)) (fun b hb e => by omega), by decide, by decide⟩; clear hr hf2) | ((with_reducible show wpList _ _ _ ({ dst := _, op := Op.store 26 _ _, type := _, pos := _, after := _, guard := _ } :: _) _ _); refine wpList_store_row rfl 26 _ _ rfl w2.heap.size (sval sp6 g 0 12) rfl rfl 26 SZ HZ2.out (HI.out _) (HSZ.out _) (HO.out _) ?_))
  have HSP : Hid (SpAt ((w2.alloc (.cells SZ 26)).setRow w2.heap.size (sval sp6 g 0 12)) w2.heap.size (List.replicate 12 0) (.slice none 0 0) (.slice none 0 0) (.slice none 0 0) (.slice none 0 0)) := Lib.hid ⟨g, 12, HS2.out, by simp [Value.ownBlock], by simp [Value.ownBlock], by simp [Value.ownBlock], by simp [Value.ownBlock]⟩
  have HBW : Hid (w.heap.size ≤ w2.heap.size) := HSW
  have HPW : Hid (w2.heap.size < (((w2.alloc (.cells SZ 26)).setRow w2.heap.size (sval sp6 g 0 12))).heap.size) := Lib.hid (Bk.lt HS2.out.blk)
  clear HS2 HZ2 HI HO HSZ HF1 hz
  generalize ((w2.alloc (.cells SZ 26)).setRow w2.heap.size (sval sp6 g 0 12)) = wa at *
  generalize w2.heap.size = p at *
  go_loopw [5, 6, 7, 8, 9] (fun vh vk vg vq u wr => ∃ (k : Nat) (st : List UInt8) (held : List (Nat × Option Nat)) (kept gone going : List Nat), k ≤ l.length ∧ u = .int .i64 k ∧ Inv st held kept gone going ∧ Rws wr p held kept gone going vh vk vg vq ∧ SpAt wr p st vh vk vg vq ∧ kept.length ≤ 12 ∧ gone.length ≤ 12 * k ∧ going.length ≤ 2 * k ∧ p < wr.heap.size ∧ Fr0 w wr) (fun _ _ _ _ u _ => l.length - (intOf u).toNat)
  case atStart => exact ⟨0, _, [], [], [], [], Nat.zero_le _, rfl, NeverPlain.start, rws_start _ _, HSP.out, Nat.zero_le _, Nat.zero_le _, Nat.zero_le _, HPW.out, HF2.out⟩
  case round =>
    obtain ⟨k, st, held, kept, gone, going, hk, rfl, hI, hR, hS, hkl, hgl, hql, hpw, hF⟩ := hrel
    by_cases hlt : k < l.length
    · have ck := (HRD.out.keep hF)
      have cb : ∀ W, Fr0 w W → ∃ b o, la = some ⟨b, o, none⟩ ∧ W.cell? ⟨b, o + k, none⟩ = some (.int .u8 (l[k].toNat : Int)) := fun W f => by
        obtain ⟨b, o, e, hr⟩ := (HRD.out.keep f) k hlt
        refine ⟨b, o, e, ?_⟩
        have := hr 0 (B l[k]) rfl
        rwa [Nat.mul_one, Nat.add_zero] at this
      obtain ⟨b, o, rfl, c0⟩ := cb wr hF
      clear ck
      have HCB : Hid (∀ W, Fr0 w W → W.cell? ⟨b, o + k, none⟩ = some (.int .u8 (l[k].toNat : Int))) := Lib.hid (fun W f => by
        obtain ⟨b', o', e, h⟩ := cb W f
        cases e; exact h)
      clear cb
      have HIN := Lib.hid hI
      have HRW := Lib.hid hR
      have HSP := Lib.hid hS
      have HF := Lib.hid hF
      have hx := l[k].toNat_lt
      generalize l[k].toNat = x at *
      clear hI hR hS hF
      by_cases h3x : x % 5 = 3
      · skip
        as_aux_lemma =>
          have hrem : Int.tmod (x : Int) 5 = 3 := by rw [show (5 : Int) = ((5 : Nat) : Int) from rfl, ← Int.ofNat_tmod, h3x]; rfl
          obtain ⟨g, c, hs, hn1, hn2, hn3, hn4⟩ := HSP.out
          have HSW := Lib.hid (sweep_calls p (spS st) g 0 c wr (spS_ok HIN.out.len HIN.out.low) hs)
          clear hs hn1 hn2 hn3 hn4
          go_wp2_with (go_at_call 8; (with_reducible refine (HSW.out).mono ?_); rintro e w5 ⟨rfl, hn⟩; have HN5 := Lib.hid hn; clear hn)
          have HIT := Lib.hid HIN.out.sweep
          have hk1 := HIN.out.len
          have HRT := Lib.hid (((HRW.out.keep HN5.out.fr (fun i h e => by omega)).add_q (.slice none 0 0) [] (Row.nil _ _) (Fr.refl _ _) (fun g e => by simp [Value.ownBlock] at e)))
          have HS0 := SpAt.now (st' := st.map (bec Tsweep)) (HRW.out) hpw HN5.out
          have HST := Lib.hid (SpAt.add_q (by rw [List.length_map]; exact hk1) HS0 (HRW.out.keep HN5.out.fr (fun i h e => by omega)) (.slice none 0 0) (Fr.refl _ _) (fun g e => by simp [Value.ownBlock] at e))
          have HFT : Hid (Fr0 w w5) := Lib.hid (Fr.newG HF.out HN5.out.fr HBW.out)
          have HPT : Hid (p < w5.heap.size) := Lib.hid (HN5.out.fr.lt hpw)
          clear HS0 HSW HN5 HIN HRW HSP HF hk1 c0 hrem
          as_aux_lemma =>
            have hn12 : (hp held).length ≤ 12 := by
              have e1 := HIT.out.count
              have e2 := countU_le (st.map (bec Tsweep))
              have e3 := HIT.out.len
              omega
            obtain ⟨ha, hcp, hvh, hle, hmx, hrd, -, -⟩ := HRT.out.h.form
            cases hvh
            have HRDH := Lib.hid hrd
            have hhl : held.length ≤ 12 := by
              have : ∀ h : List (Nat × Option Nat), h.length ≤ (hp h).length := fun h => by
                induction h with
                | nil => exact Nat.le_refl _
                | cons a r ih => rw [hp_cons, List.length_append, List.length_cons]; have : 1 ≤ (pl a).length := by simp [pl]
                                 omega
              have := this held
              omega
            clear hrd
            go_loop [22, 23] (fun nn jj => ∃ j : Nat, j ≤ held.length ∧ jj = .int .i64 j ∧ nn = .int .i64 ((hp (held.take j)).length : Int)) (fun _ jj => held.length - (intOf jj).toNat)
            case atStart => exact ⟨0, Nat.zero_le _, rfl, rfl⟩
            case round =>
              obtain ⟨j, hj, rfl, rfl⟩ := hrel
              have hnj : (hp (held.take j)).length ≤ 12 := by
                have e : hp held = hp (held.take j) ++ hp (held.drop j) := by rw [← hp_append, List.take_append_drop]
                rw [e, List.length_append] at hn12
                omega
              by_cases hjl : j < held.length
              · obtain ⟨b2, o2, rfl, hcell⟩ := HRDH.out j hjl
                have cB : w5.cell? ⟨b2, o2 + j * 34 + 1, none⟩ = some (.int .i64 (scO held[j].2)) := hcell 1 _ rfl
                have HTK : Hid (hp (held.take (j + 1)) = hp (held.take j) ++ pl held[j]) := Lib.hid (by rw [List.take_succ_eq_append_getElem hjl, hp_append, hp_one])
                generalize held[j] = pj at *
                obtain ⟨i1, oj⟩ := pj
                generalize (hp (held.take j)) = hpj at *
                clear hcell HRDH
                cases oj with
                | none =>
                  simp only [scO] at cB
                  go_wp2
                  go_round
                  case rel => exact ⟨j + 1, by omega, by go_num, by rw [HTK.out, List.length_append]; show _ = Value.int .i64 ((hpj.length + 1 : Nat) : Int); go_num⟩
                  case measure => simp [intOf]; omega
                | some j1 =>
                  simp only [scO] at cB
                  generalize sc j1 = q1 at *
                  go_wp2
                  go_round
                  case rel => exact ⟨j + 1, by omega, by go_num, by rw [HTK.out, List.length_append]; show _ = Value.int .i64 ((hpj.length + 2 : Nat) : Int); go_num⟩
                  case measure => simp [intOf]; omega
              · have hje : held.take j = held := List.take_of_length_le (by omega)
                rw [hje] at hnj ⊢
                obtain ⟨g, c, hs, -⟩ := HST.out
                have HUS : Hid (Calls Try.prog 10 #[.agg (sval (spS (st.map (bec Tsweep))) g 0 c)] w5 fun e w' => e = .returned (.int .i64 ((hp held).length : Int)) ∧ Fr0 w5 w') := Lib.hid (by
                  have := Used_calls (spS (st.map (bec Tsweep))) g 0 c w5 (spS_ok HIT.out.len HIT.out.low) hs.rd
                  rw [show countU (spS (st.map (bec Tsweep))).st = (hp held).length from HIT.out.count] at this
                  exact this)
                have HBP := Lib.hid hs.blk
                have HIS : Hid ((Try.prog.info? 26).map (·.size) = some (sval (spS (st.map (bec Tsweep))) g 0 c).size) := Lib.hid (by kernel_rfl)
                generalize sval (spS (st.map (bec Tsweep))) g 0 c = SVT at *
                generalize (hp held).length = hn at *
                clear hs
                go_wp2_with (first | ((with_reducible show wpList _ _ _ ({ dst := _, op := Op.load 26 _, type := _, pos := _, after := _, guard := _ } :: _) _ _); refine wpList_load_row_g (by rfl) 26 _ rfl p rfl 26 _ (0, 0) _ HBP.out Try.underlying26 rfl HIS.out ?_) | (go_at_call 10; (with_reducible refine HUS.out.mono ?_); rintro e w8 ⟨rfl, hf8⟩; have HF8 := Lib.hid hf8; clear hf8))
                go_roundw
                case rel => exact ⟨k + 1, _, _, _, _, _, by omega, by go_num, HIT.out, HRT.out.keep HF8.out (fun _ _ h => h), HST.out.keep0 HF8.out, hkl, by omega, by simp, HF8.out.lt HPT.out, HFT.out.then0 HF8.out⟩
                case measure => simp [intOf]; omega
      by_cases h4x : x % 5 = 4
      · skip
        as_aux_lemma =>
          have hrem : Int.tmod (x : Int) 5 = 4 := by rw [show (5 : Int) = ((5 : Nat) : Int) from rfl, ← Int.ofNat_tmod, h4x]; rfl
          obtain ⟨g, c, hs, hn1, hn2, hn3, hn4⟩ := HSP.out
          have HSW := Lib.hid (settle_calls p (spS st) g 0 c wr (spS_ok HIN.out.len HIN.out.low) hs)
          clear hs hn1 hn2 hn3 hn4
          go_wp2_with (go_at_call 9; (with_reducible refine (HSW.out).mono ?_); rintro e w5 ⟨rfl, hn⟩; have HN5 := Lib.hid hn; clear hn)
          have HIT := Lib.hid HIN.out.settle
          have hk1 := HIN.out.len
          have hL : (st.map (bec Tsettle)).length = 12 := by rw [List.length_map]; exact hk1
          have r0 := HRW.out.keep HN5.out.fr (fun i h e => by omega)
          have s0 := SpAt.now (st' := st.map (bec Tsettle)) (HRW.out) hpw HN5.out
          have r1 := r0.add_k (.slice none 0 0) [] (Row.nil _ _) (Fr.refl _ _) (fun g e => by simp [Value.ownBlock] at e)
          have s1 := SpAt.add_k hL s0 r0 (.slice none 0 0) (Fr.refl _ _) (fun g e => by simp [Value.ownBlock] at e)
          have r2 := r1.add_g (.slice none 0 0) [] (Row.nil _ _) (Fr.refl _ _) (fun g e => by simp [Value.ownBlock] at e)
          have s2 := SpAt.add_g hL s1 r1 (.slice none 0 0) (Fr.refl _ _) (fun g e => by simp [Value.ownBlock] at e)
          have HRT := Lib.hid (r2.add_q (.slice none 0 0) [] (Row.nil _ _) (Fr.refl _ _) (fun g e => by simp [Value.ownBlock] at e))
          have HST := Lib.hid (SpAt.add_q hL s2 r2 (.slice none 0 0) (Fr.refl _ _) (fun g e => by simp [Value.ownBlock] at e))
          have HFT : Hid (Fr0 w w5) := Lib.hid (Fr.newG HF.out HN5.out.fr HBW.out)
          have HPT : Hid (p < w5.heap.size) := Lib.hid (HN5.out.fr.lt hpw)
          have HLL := Lib.hid hL
          have hn12 : (hp held).length ≤ 12 := by
            have e1 := HIT.out.count
            have e2 := countU_le (st.map (bec Tsettle))
            omega
          have hhl : held.length ≤ 12 := Nat.le_trans (hp_len held) hn12
          clear r0 r1 r2 s0 s1 s2 HSW HN5 HIN HRW HSP HF hk1 c0 hrem hL
          obtain ⟨ha, hcp, hvh, -, -, -, -, -⟩ := HRT.out.h.form
          cases hvh
          go_loopw [6, 21] (fun v6 jj W => ∃ j : Nat, j ≤ held.length ∧ jj = .int .i64 j ∧ Rws W p held (hp (held.take j)) [] [] (.slice ha held.length hcp) v6 (.slice none 0 0) (.slice none 0 0) ∧ SpAt W p (st.map (bec Tsettle)) (.slice ha held.length hcp) v6 (.slice none 0 0) (.slice none 0 0) ∧ p < W.heap.size ∧ Fr0 w W) (fun _ jj _ => held.length - (intOf jj).toNat)
          case atStart => exact ⟨0, Nat.zero_le _, rfl, HRT.out, HST.out, HPT.out, HFT.out⟩
          case round =>
            obtain ⟨j, hj, rfl, hR, hS, hpw5, hF5⟩ := hrel
            by_cases hjl : j < held.length
            · obtain ⟨b2, o2, rfl, hat⟩ := RowP.at_ hR.h hjl
              have cA := (hat _ hR.h).1
              have cB := (hat _ hR.h).2
              have HAT := Lib.hid hat
              have HTK : Hid (hp (held.take (j + 1)) = hp (held.take j) ++ pl held[j]) := Lib.hid (by rw [List.take_succ_eq_append_getElem hjl, hp_append, hp_one])
              have hnj : (hp (held.take j)).length ≤ 12 := by
                have e : hp held = hp (held.take j) ++ hp (held.drop j) := by rw [← hp_append, List.take_append_drop]
                rw [e, List.length_append] at hn12
                omega
              have HR := Lib.hid hR
              have HS := Lib.hid hS
              have HPW := Lib.hid hpw5
              have HF5 := Lib.hid hF5
              clear hat hR hS hpw5 hF5
              generalize held[j] = pj at *
              obtain ⟨i1, oj⟩ := pj
              have HTL := Lib.hid hnj
              clear hnj
              generalize hp (held.take j) = hpj at *
              cases oj with
              | none =>
                simp only [scO] at cB
                go_wp2_with ((at_builtin; refine wpList_plain rfl fun K hK => ?_; obtain ⟨v6, w6, hr_, hr1, hs1, hp1, hf1, hb1, hn1⟩ := app_k HR.out HS.out HLL.out HPW.out i1 (Nat.le_trans HTL.out (by decide)); refine GApp.wp_append_run (.tmp 54) (.tmp 60) 31 (by rfl) _ _ _ (by rfl) (by rfl) hr_ ?_; refine hK _ _ ?_; have d0 := (HAT.out _ hr1.h).2; have HR6 := Lib.hid hr1; have HS6 := Lib.hid hs1; have HP6 := Lib.hid hp1; have HFF6 := Lib.hid hf1; have HB6 := Lib.hid hb1; have HNB6 := Lib.hid hn1; clear hr_ hr1 hs1 hp1 hf1 hb1 hn1))
                go_roundw
                case rel => exact ⟨j + 1, by omega, by go_num, by rw [HTK.out]; exact HR6.out, HS6.out, HP6.out, HFF6.out _ HF5.out HBW.out⟩
                case measure => simp [intOf]; omega
              | some j1 =>
                simp only [scO] at cB
                go_wp2_with (first | (at_builtin; refine wpList_plain rfl fun K hK => ?_; obtain ⟨v6, w6, hr_, hr1, hs1, hp1, hf1, hb1, hn1⟩ := app_k HR.out HS.out HLL.out HPW.out i1 (Nat.le_trans HTL.out (by decide)); refine GApp.wp_append_run (.tmp 54) (.tmp 60) 31 (by rfl) _ _ _ (by rfl) (by rfl) hr_ ?_; refine hK _ _ ?_; have d0 := (HAT.out _ hr1.h).2; have HR6 := Lib.hid hr1; have HS6 := Lib.hid hs1; have HP6 := Lib.hid hp1; have HFF6 := Lib.hid hf1; have HB6 := Lib.hid hb1; have HNB6 := Lib.hid hn1; clear hr_ hr1 hs1 hp1 hf1 hb1 hn1) | (at_builtin; refine wpList_plain rfl fun K hK => ?_; obtain ⟨v7, w7, hr_, hr1, hs1, hp1, hf1, hb1, hn1⟩ := app_k HR6.out HS6.out HLL.out HP6.out j1 (by rw [List.length_append]; exact Nat.le_trans (Nat.add_le_add_right HTL.out _) (by show 12 + 1 ≤ 100000; decide)); refine GApp.wp_append_run (.tmp 68) (.tmp 74) 31 (by rfl) _ _ _ (by rfl) (by rfl) hr_ ?_; refine hK _ _ ?_; have HR7 := Lib.hid hr1; have HS7 := Lib.hid hs1; have HP7 := Lib.hid hp1; have HFF7 := Lib.hid hf1; have HB7 := Lib.hid hb1; have HNB7 := Lib.hid hn1; clear hr_ hr1 hs1 hp1 hf1 hb1 hn1))
                go_roundw
                case rel => exact ⟨j + 1, by omega, by go_num, by rw [HTK.out]; have := HR7.out; rw [List.append_assoc] at this; exact this, HS7.out, HP7.out, HFF7.out _ (HFF6.out _ HF5.out HBW.out) HBW.out⟩
                case measure => simp [intOf]; omega
            · have hje : held.take j = held := List.take_of_length_le (by omega)
              rw [hje] at hR
              clear HRT HST HFT HPT
              have HRT := Lib.hid hR
              have HST := Lib.hid hS
              have HPT := Lib.hid hpw5
              have HFT := Lib.hid hF5
              clear hR hS hpw5 hF5
              have HKL : Hid (∀ L : List Nat, L = hp held → L.length ≤ 12) := Lib.hid (fun L e => e ▸ hn12)
              go_wp2
              as_aux_lemma =>
                have hn12 : (hp held).length ≤ 12 := by
                  have e1 := HIT.out.count
                  have e2 := countU_le (st.map (bec Tsettle))
                  have e3 := HIT.out.len
                  omega
                obtain ⟨ha, hcp, hvh, hle, hmx, hrd, -, -⟩ := HRT.out.h.form
                cases hvh
                have HRDH := Lib.hid hrd
                have hhl : held.length ≤ 12 := by
                  have : ∀ h : List (Nat × Option Nat), h.length ≤ (hp h).length := fun h => by
                    induction h with
                    | nil => exact Nat.le_refl _
                    | cons a r ih => rw [hp_cons, List.length_append, List.length_cons]; have : 1 ≤ (pl a).length := by simp [pl]
                                     omega
                  have := this held
                  omega
                clear hrd
                go_loop [22, 23] (fun nn jj => ∃ j : Nat, j ≤ held.length ∧ jj = .int .i64 j ∧ nn = .int .i64 ((hp (held.take j)).length : Int)) (fun _ jj => held.length - (intOf jj).toNat)
                case atStart => exact ⟨0, Nat.zero_le _, rfl, rfl⟩
                case round =>
                  obtain ⟨j, hj, rfl, rfl⟩ := hrel
                  have hnj : (hp (held.take j)).length ≤ 12 := by
                    have e : hp held = hp (held.take j) ++ hp (held.drop j) := by rw [← hp_append, List.take_append_drop]
                    rw [e, List.length_append] at hn12
                    omega
                  by_cases hjl : j < held.length
                  · obtain ⟨b2, o2, rfl, hcell⟩ := HRDH.out j hjl
                    have cB : wr.cell? ⟨b2, o2 + j * 34 + 1, none⟩ = some (.int .i64 (scO held[j].2)) := hcell 1 _ rfl
                    have HTK : Hid (hp (held.take (j + 1)) = hp (held.take j) ++ pl held[j]) := Lib.hid (by rw [List.take_succ_eq_append_getElem hjl, hp_append, hp_one])
                    generalize held[j] = pj at *
                    obtain ⟨i1, oj⟩ := pj
                    generalize (hp (held.take j)) = hpj at *
                    clear hcell HRDH
                    cases oj with
                    | none =>
                      simp only [scO] at cB
                      go_wp2
                      go_round
                      case rel => exact ⟨j + 1, by omega, by go_num, by rw [HTK.out, List.length_append]; show _ = Value.int .i64 ((hpj.length + 1 : Nat) : Int); go_num⟩
                      case measure => simp [intOf]; omega
                    | some j1 =>
                      simp only [scO] at cB
                      generalize sc j1 = q1 at *
                      go_wp2
                      go_round
                      case rel => exact ⟨j + 1, by omega, by go_num, by rw [HTK.out, List.length_append]; show _ = Value.int .i64 ((hpj.length + 2 : Nat) : Int); go_num⟩
                      case measure => simp [intOf]; omega
                  · have hje : held.take j = held := List.take_of_length_le (by omega)
                    rw [hje] at hnj ⊢
                    obtain ⟨g, c, hs, -⟩ := HST.out
                    have HUS : Hid (Calls Try.prog 10 #[.agg (sval (spS (st.map (bec Tsettle))) g 0 c)] wr fun e w' => e = .returned (.int .i64 ((hp held).length : Int)) ∧ Fr0 wr w') := Lib.hid (by
                      have := Used_calls (spS (st.map (bec Tsettle))) g 0 c wr (spS_ok HIT.out.len HIT.out.low) hs.rd
                      rw [show countU (spS (st.map (bec Tsettle))).st = (hp held).length from HIT.out.count] at this
                      exact this)
                    have HBP := Lib.hid hs.blk
                    have HIS : Hid ((Try.prog.info? 26).map (·.size) = some (sval (spS (st.map (bec Tsettle))) g 0 c).size) := Lib.hid (by kernel_rfl)
                    generalize sval (spS (st.map (bec Tsettle))) g 0 c = SVT at *
                    generalize (hp held).length = hn at *
                    clear hs
                    go_wp2_with (first | ((with_reducible show wpList _ _ _ ({ dst := _, op := Op.load 26 _, type := _, pos := _, after := _, guard := _ } :: _) _ _); refine wpList_load_row_g (by rfl) 26 _ rfl p rfl 26 _ (0, 0) _ HBP.out Try.underlying26 rfl HIS.out ?_) | (go_at_call 10; (with_reducible refine HUS.out.mono ?_); rintro e w8 ⟨rfl, hf8⟩; have HF8 := Lib.hid hf8; clear hf8))
                    go_roundw
                    case rel => exact ⟨k + 1, _, _, _, _, _, by omega, by go_num, HIT.out, HRT.out.keep HF8.out (fun _ _ h => h), HST.out.keep0 HF8.out, HKL.out _ rfl, by simp, by simp, HF8.out.lt HPT.out, HFT.out.then0 HF8.out⟩
                    case measure => simp [intOf]; omega
      by_cases h2x : x % 5 = 2
      · skip
        as_aux_lemma =>
          have hrem : Int.tmod (x : Int) 5 = 2 := by rw [show (5 : Int) = ((5 : Nat) : Int) from rfl, ← Int.ofNat_tmod, h2x]; rfl
          have hquo : Int.tdiv (x : Int) 5 = ((x / 5 : Nat) : Int) := by rw [show (5 : Int) = ((5 : Nat) : Int) from rfl, ← Int.ofNat_tdiv]
          have hy256 : x / 5 < 256 := by omega
          generalize x / 5 = y at *
          obtain ⟨ha, hcp, hvh, -, -, -, -, -⟩ := HRW.out.h.form
          cases hvh
          by_cases hh : held.length = 0
          · obtain rfl : held = [] := List.eq_nil_of_length_eq_zero hh
            go_wp2
            go_roundw
            case rel => exact ⟨k + 1, _, _, _, _, _, by omega, by go_num, HIN.out, HRW.out, HSP.out, hkl, by omega, by omega, hpw, HF.out⟩
            case measure => simp [intOf]; omega
          · skip
            obtain ⟨b2, cur2, rfl, hown, hb2⟩ := RowP.own_ HRW.out.h hh
            have hhl : held.length ≤ 12 := by
              have e1 := HIN.out.count
              have e2 := countU_le st
              have e3 := HIN.out.len
              have e4 := hp_len held
              omega
            have hne : ((held.length : Int) == 0) = false := by rw [beq_eq_false_iff_ne]; omega
            have hne2 : (held.length == 0) = false := by rw [beq_eq_false_iff_ne]; omega
            have hnz : ¬ ((held.length : Int) = 0) := by omega
            obtain ⟨m, hm, hmE⟩ : ∃ m, m < held.length ∧ y % held.length = m := ⟨_, Nat.mod_lt _ (by omega), rfl⟩
            have hmod : Int.tmod (y : Int) (held.length : Int) = (m : Int) := by rw [← Int.ofNat_tmod, hmE]
            clear hmE
            have HRG : Hid (wr.rangeAt b2 (m * 34) (ptv held[m])) := Lib.hid (by have := RowP.rg HRW.out.h hm; rwa [Nat.zero_add] at this)
            have HMEM := Lib.hid (List.getElem_mem hm)
            have HIT := Lib.hid (inv_drop HIN.out hm)
            obtain ⟨g, c, hs, hn1, hn2, hn3, hn4⟩ := HSP.out
            have HDR : Hid (∀ W, Fr0 wr W → Calls Try.prog 7 #[.pointer (some ⟨p, 0, none⟩), .agg (ptv held[m]).toArray] W fun e w' => e = .returned (.int .i64 0) ∧ Now W w' p (spS (drK st held[m]))) := Lib.hid (fun W f => drop_all HIN.out (hs.keep f) HMEM.out)
            have HLL : Hid ((drK st held[m]).length = 12) := Lib.hid HIT.out.len
            clear hs hn1 hn2 hn3 hn4 HMEM hown
            have hz : ∀ W, (zeroValue 37).run Try.prog W = .ok (.agg PZ) W := zero_p
            have HIX := Lib.hid (info_ptv held[m])
            have HIY := Lib.hid (info_ptv2 held[m])
            have HSZ := Lib.hid (PZ_size.trans (ptv_size held[m]).symm)
            have HAL := Lib.hid (ptv_all held[m])
            have HZR := Lib.hid (Bk.new wr (.cells PZ 37))
            have HF4 : Hid (Fr0 wr ((wr.alloc (.cells PZ 37)).setRow wr.heap.size (ptv held[m]).toArray)) := Lib.hid (ArrKit.Fr.row (Fr.alloc (Fr.refl _ _) _) _ _ (.inl (Nat.le_refl _)))
            have HB4 : Hid (Bk ((wr.alloc (.cells PZ 37)).setRow wr.heap.size (ptv held[m]).toArray) wr.heap.size (ptv held[m]).toArray 37) := Lib.hid (ArrKit.Bk.row HZR.out _)
            go_wp2_with (first | ((with_reducible show wpList _ _ _ ({ dst := _, op := Op.load 37 _, type := _, pos := _, after := _, guard := _ } :: _) _ _); refine wpList_load_mid rfl 37 _ rfl b2 (m * 34) rfl (ptv held[m]) _ HRG.out Try.underlying37 rfl HIY.out ?_) | ((with_reducible show wpList _ _ _ ({ dst := _, op := Op.store 37 _ _, type := _, pos := _, after := _, guard := _ } :: _) _ _); refine wpList_store_row rfl 37 _ _ rfl wr.heap.size (ptv held[m]).toArray rfl rfl 37 PZ HZR.out HIX.out HSZ.out HAL.out ?_) | ((with_reducible show wpList _ _ _ ({ dst := _, op := Op.load 37 _, type := _, pos := _, after := _, guard := _ } :: _) _ _); refine wpList_load_row_g (by rfl) 37 _ rfl wr.heap.size rfl 37 _ (0, 0) _ HB4.out Try.underlying37 rfl HIX.out ?_) | (go_at_call 7; (with_reducible refine (HDR.out _ HF4.out).mono ?_); rintro e w5 ⟨rfl, hn⟩; have HN5 := Lib.hid hn; clear hn))
            have r4 := HRW.out.keep HF4.out (fun _ _ h => h)
            have r0 := r4.keep HN5.out.fr (fun i h e => by omega)
            have s0 := SpAt.now (st' := drK st held[m]) r4 (HF4.out.lt hpw) HN5.out
            have HRT := Lib.hid r0
            have HST := Lib.hid s0
            have HFT : Hid (Fr0 w w5) := Lib.hid (Fr.newG (HF.out.then0 HF4.out) HN5.out.fr HBW.out)
            have HPT : Hid (p < w5.heap.size) := Lib.hid (HN5.out.fr.lt (HF4.out.lt hpw))
            have HB19 : Hid (Bk w5 wr.heap.size (ptv held[m]).toArray 37) := Lib.hid (HN5.out.fr.keep HB4.out (by omega))
            have HNB : Hid (∀ g, wr.heap.size ≤ g → Value.ownBlock u6 ≠ some g ∧ Value.ownBlock u7 ≠ some g ∧ Value.ownBlock u8 ≠ some g) := Lib.hid (fun g hg => ⟨fun e => by have := (HRW.out.k.blk g e).2; omega, fun e => by have := (HRW.out.g.blk g e).2; omega, fun e => by have := (HRW.out.q.blk g e).2; omega⟩)
            have HPB : Hid (p < wr.heap.size) := Lib.hid hpw
            clear r4 r0 s0 HDR HIX HIY HSZ HAL HZR HF4 HB4 HN5 HIN HRW HSP HF c0 HRG hne hne2 hnz hmod hpw
            generalize drK st held[m] = stn at *
            generalize hPM : held[m] = pm at *
            generalize wr.heap.size = b19 at *
            obtain ⟨i1, hy0, hz0, hz1, hz2⟩ := info_parts infoP
            have HJ : Hid (Try.prog.info? 37 = some i1 ∧ i1.zero = some (.agg (PC 0 0 PtrAsk.Z).toArray) ∧ i1.size = 34 ∧ i1.bytes = 48) := Lib.hid ⟨hy0, hz0, hz1, hz2⟩
            clear hy0 hz0 hz1 hz2
            have hle : held.length ≤ hcp ∧ RdG ptv 34 w5 (some ⟨b2, 0, none⟩) held := by
              obtain ⟨a, cap, e, h1, -, h2, -⟩ := HRT.out.h.form
              cases e
              exact ⟨h1, h2⟩
            have HLO : Hid (∀ W, (Instr.sliceAt 30 (.slice (some ⟨b2, 0, none⟩) held.length hcp) none (some (.int .i64 (m : Int))) none).run Try.prog W = .ok (.slice (some ⟨b2, 0, none⟩) m hcp) W) := Lib.hid (fun W => run_lo W _ _ _ _ (by omega))
            have HHI := Lib.hid (fun W => run_hi2 W b2 held.length hcp m (by omega))
            have HDA : Hid (∀ W, Fr0 w5 W → RdG ptv 34 W (some ⟨b2, 0, none⟩) (held.take m)) := Lib.hid (fun W f => rd_take (RdG.keep hle.2 f) (by omega))
            have HDC : Hid (∀ W, Fr0 w5 W → RdG ptv 34 W (some ⟨b2, if hcp = m + 1 then 0 else (m + 1) * 34, none⟩) (held.drop (m + 1))) := Lib.hid (fun W f => rd_drop (RdG.keep hle.2 f) rfl hle.1)
            have HLA : Hid ((held.take m).length = m) := Lib.hid (by rw [List.length_take]; omega)
            have HLC : Hid ((held.drop (m + 1)).length = held.length - (m + 1)) := Lib.hid (List.length_drop ..)
            have HLM : Hid (m + (held.length - (m + 1)) ≤ 12) := Lib.hid (by omega)
            have hm12 : m < 12 := by omega
            clear hle
            generalize (if hcp = m + 1 then 0 else (m + 1) * 34) = of2 at *
            generalize held.take m = lA at *
            generalize held.drop (m + 1) = lC at *
            generalize held.length - (m + 1) = nC at *
            generalize hcp - (m + 1) = cC at *
            have HF0_ : Hid (Fr0 w5 w5.drew) := Lib.hid (Fr.drew (Fr.refl _ _))
            refine wp_region_noPanic ?_
            refine wp_region_held_drew (S := (fun _ : World => True)) (by kernel_rfl) (trivial) (fun hHeld0 => ?_)
            (generalize w5.drew = wd at *); have HFd := HF0_
            change wpAnyH _ _ _ _ _ 11 #[false, false, false, false, false, false, false, false, false, false, false] _ _
            refine wpAnyH_take (i := 1) (v := .slice (some ⟨b2, 0, none⟩) held.length hcp) rfl (by kernel_rfl) (by kernel_rfl) (by kernel_rfl) (fun _ _ _ h => h) (Or.inl ⟨by kernel_rfl, fun w hSw => by first | kernel_rfl | (go_simp; done)⟩) hHeld0 ?_
            simp only [Act.put, List.getElem_toArray, List.getElem_cons_succ, List.getElem_cons_zero, List.setIfInBounds_toArray, List.set_cons_zero, List.set_cons_succ]
            change wpAnyH _ _ _ _ _ 10 #[false, true, false, false, false, false, false, false, false, false, false] _ _
            refine wpAnyH_take (i := 2) (v := .int .i64 (m : Int)) rfl (by kernel_rfl) (by kernel_rfl) (by kernel_rfl) (fun _ _ _ h => h) (Or.inl ⟨by kernel_rfl, fun w hSw => by first | kernel_rfl | (go_simp; done)⟩) hHeld0 ?_
            simp only [Act.put, List.getElem_toArray, List.getElem_cons_succ, List.getElem_cons_zero, List.setIfInBounds_toArray, List.set_cons_zero, List.set_cons_succ]
            change wpAnyH _ _ _ _ _ 9 #[false, true, true, false, false, false, false, false, false, false, false] _ _
            refine wpAnyH_take (i := 3) (v := .slice (some ⟨b2, 0, none⟩) m hcp) rfl (by kernel_rfl) (by kernel_rfl) (by kernel_rfl) (fun _ _ _ h => h) (Or.inl ⟨by kernel_rfl, fun w hSw => run_slice_op 30 _ _ _ _ rfl (.slice (some ⟨b2, 0, none⟩) held.length hcp) rfl none (some (.int .i64 (m : Int))) none rfl rfl rfl _ (HLO.out w)⟩) hHeld0 ?_
            simp only [Act.put, List.getElem_toArray, List.getElem_cons_succ, List.getElem_cons_zero, List.setIfInBounds_toArray, List.set_cons_zero, List.set_cons_succ]
            change wpAnyH _ _ _ _ _ 8 #[false, true, true, true, false, false, false, false, false, false, false] _ _
            refine wpAnyH_take (i := 5) (v := .slice (some ⟨b2, 0, none⟩) held.length hcp) rfl (by kernel_rfl) (by kernel_rfl) (by kernel_rfl) (fun _ _ _ h => h) (Or.inl ⟨by kernel_rfl, fun w hSw => by first | kernel_rfl | (go_simp; done)⟩) hHeld0 ?_
            simp only [Act.put, List.getElem_toArray, List.getElem_cons_succ, List.getElem_cons_zero, List.setIfInBounds_toArray, List.set_cons_zero, List.set_cons_succ]
            change wpAnyH _ _ _ _ _ 7 #[false, true, true, true, false, true, false, false, false, false, false] _ _
            refine wpAnyH_take (i := 6) (v := .int .i64 (m : Int)) rfl (by kernel_rfl) (by kernel_rfl) (by kernel_rfl) (fun _ _ _ h => h) (Or.inl ⟨by kernel_rfl, fun w hSw => by first | kernel_rfl | (go_simp; done)⟩) hHeld0 ?_
            simp only [Act.put, List.getElem_toArray, List.getElem_cons_succ, List.getElem_cons_zero, List.setIfInBounds_toArray, List.set_cons_zero, List.set_cons_succ]
            change wpAnyH _ _ _ _ _ 6 #[false, true, true, true, false, true, true, false, false, false, false] _ _
            refine wpAnyH_take (i := 7) (v := .int .i64 ((m : Int) + 1)) rfl (by kernel_rfl) (by kernel_rfl) (by kernel_rfl) (fun _ _ _ h => h) (Or.inl ⟨by kernel_rfl, fun w hSw => by go_simp; rw [IntKind.wrap_i64]; omega⟩) hHeld0 ?_
            simp only [Act.put, List.getElem_toArray, List.getElem_cons_succ, List.getElem_cons_zero, List.setIfInBounds_toArray, List.set_cons_zero, List.set_cons_succ]
            change wpAnyH _ _ _ _ _ 5 #[false, true, true, true, false, true, true, true, false, false, false] _ _
            refine wpAnyH_take (i := 8) (v := .slice (some ⟨b2, of2, none⟩) nC cC) rfl (by kernel_rfl) (by kernel_rfl) (by kernel_rfl) (fun _ _ _ h => h) (Or.inl ⟨by kernel_rfl, fun w hSw => run_slice_op 30 _ _ _ _ rfl (.slice (some ⟨b2, 0, none⟩) held.length hcp) rfl (some (.int .i64 ((m : Int) + 1))) none none rfl rfl rfl _ (HHI.out w)⟩) hHeld0 ?_
            simp only [Act.put, List.getElem_toArray, List.getElem_cons_succ, List.getElem_cons_zero, List.setIfInBounds_toArray, List.set_cons_zero, List.set_cons_succ]
            change wpAnyH _ _ _ _ _ 4 #[false, true, true, true, false, true, true, true, true, false, false] _ _
            refine wpAnyH_ready (rs := [0]) (by kernel_rfl) (by simp) ?_
            refine AllReadyH.cons rfl (fun K hK => ?_) AllReadyH.nil
            simp only [List.getElem_toArray, List.getElem_cons_succ, List.getElem_cons_zero]
            refine (if_pos (by kernel_rfl)).mpr ?_
            refine GApp.wp_buildSlice_nil 30 rfl 37 i1 Try.underlying30 HJ.out.1 ?_
            refine hK.out _ _ (trivial) (fun hHeld1 => ?_)
            clear hK K hHeld0
            have HE1 : Hid (Bk (wd.alloc (.cells #[] 37)) wd.heap.size #[] 37) := Lib.hid (Bk.new _ _)
            have HF1 : Hid (Fr0 w5 (wd.alloc (.cells #[] 37))) := Lib.hid (Fr.alloc HFd.out _)
            have HGD := Lib.hid (HFd.out.size)
            generalize (wd.alloc (.cells #[] 37)) = wy1 at *
            generalize wd.heap.size = gE at *
            change wpAnyH _ _ _ _ _ 3 #[true, true, true, true, false, true, true, true, true, false, false] _ _
            refine wpAnyH_ready (rs := [4]) (by kernel_rfl) (by simp) ?_
            refine AllReadyH.cons rfl (fun K hK => ?_) AllReadyH.nil
            simp only [List.getElem_toArray, List.getElem_cons_succ, List.getElem_cons_zero]
            refine (if_pos (by kernel_rfl)).mpr ?_
            obtain ⟨g6, cap6, cur6, wy2, hr5, hg5, ho5, hf5⟩ := run_append_all (P := Try.prog) wy1 30 30 i1 _ 48 Try.underlying30 HJ.out.1 HJ.out.2.1 HJ.out.2.2.1 HJ.out.2.2.2 (by simp [Value.cells, PC_length, PtrAsk.Z_len]) (by decide) gE HE1.out (some ⟨b2, 0, none⟩) m hcp lA HLA.out (HDA.out _ HF1.out) (fun x _ => ptv_len x) (fun x _ => ptv_one x) (by omega) (by omega)
            have HGD2 := HGD.out
            refine GApp.wp_append_run _ _ 30 rfl _ _ _ rfl rfl hr5 ?_
            refine hK.out _ _ (trivial) (fun hHeld2 => ?_)
            clear hK K hHeld1
            have HO2 := Lib.hid ho5
            have HG2 := Lib.hid hg5
            have HF2 : Hid (Fr0 w5 wy2) := Lib.hid (Fr.newG HF1.out hf5 HGD2)
            clear hr5 hf5 ho5 hg5 HGD2
            change wpAnyH _ _ _ _ _ 2 #[true, true, true, true, true, true, true, true, true, false, false] _ _
            refine wpAnyH_ready (rs := [9]) (by kernel_rfl) (by simp) ?_
            refine AllReadyH.cons rfl (fun K hK => ?_) AllReadyH.nil
            simp only [List.getElem_toArray, List.getElem_cons_succ, List.getElem_cons_zero]
            refine (if_pos (by kernel_rfl)).mpr ?_
            obtain ⟨g7, cap7, cur7, wy3, hr6, hg6, ho6, hf6⟩ := Row.appendN (P := Try.prog) wy2 30 30 i1 _ 48 gE Try.underlying30 HJ.out.1 HJ.out.2.1 HJ.out.2.2.1 HJ.out.2.2.2 (by simp [Value.cells, PC_length, PtrAsk.Z_len]) (by decide) g6 cap6 cur6 lA HO2.out HG2.out (fun x _ => ptv_len x) b2 of2 cC lC (fun x _ => ptv_len x) (fun x _ => ptv_one x) (HDC.out _ HF2.out) (by have := HLM.out; have := HLA.out; have := HLC.out; omega) (by have := HLM.out; have := HLA.out; have := HLC.out; omega)
            have hr7 := hr6
            rw [HLA.out, HLC.out] at hr7
            have HGD2 := HGD.out
            have hg62 := HG2.out
            refine GApp.wp_append_run _ _ 30 rfl _ _ _ rfl rfl hr7 ?_
            refine hK.out _ _ (trivial) (fun hHeld3 => ?_)
            clear hK K hHeld2
            have HO3 := Lib.hid ho6
            have HG3 : Hid (w5.heap.size ≤ g7) := Lib.hid (Nat.le_trans HGD2 hg6)
            have HF3 : Hid (Fr0 w5 wy3) := Lib.hid (Fr.newG HF2.out hf6 (Nat.le_trans HGD2 hg62))
            clear hr6 hr7 hf6 ho6 hg6 hg62 HGD2
            change wpAnyH _ _ _ _ _ 1 #[true, true, true, true, true, true, true, true, true, true, false] _ _
            refine wpAnyH_take (i := 10) (v := .slice (some ⟨g7, 0, none⟩) (lA ++ lC).length cap7) rfl (by kernel_rfl) (by kernel_rfl) (by kernel_rfl) (fun _ _ _ h => h) (Or.inl ⟨by kernel_rfl, fun w hSw => by first | kernel_rfl | (go_simp; done)⟩) hHeld3 ?_
            simp only [Act.put, List.getElem_toArray, List.getElem_cons_succ, List.getElem_cons_zero, List.setIfInBounds_toArray, List.set_cons_zero, List.set_cons_succ]
            change wpAnyH _ _ _ _ _ 0 #[true, true, true, true, true, true, true, true, true, true, true] _ _
            refine wpAnyH_done (by kernel_rfl) ?_ _
            refine NoPanic.normal ?_
            have HEND := Lib.hid hHeld3
            clear hHeld3
            generalize lA ++ lC = hdn at *
            have HFW : Hid (Fr (fun i => (Value.slice (some ⟨b2, 0, none⟩) held.length hcp).ownBlock = some i) w5 wy3) := Lib.hid (HF3.out.weaken (fun _ _ h => h.elim))
            have HR3 := Lib.hid (HRT.out.add_h (.slice (some ⟨g7, 0, none⟩) hdn.length cap7) hdn (Row.own HO3.out (by have := HG3.out; have := HPT.out; omega)) HFW.out (fun g e => .inr (by simp only [Value.ownBlock, Option.some.injEq] at e; have := HG3.out; omega)))
            have HS3 := Lib.hid (SpAt.add_h HLL.out HST.out HRT.out (.slice (some ⟨g7, 0, none⟩) hdn.length cap7) HFW.out (fun g e => .inr (by simp only [Value.ownBlock, Option.some.injEq] at e; have := HG3.out; omega)))
            have HFT3 := Lib.hid (HFT.out.then0 HF3.out)
            have HPT3 : Hid (p < wy3.heap.size) := Lib.hid (HF3.out.lt HPT.out)
            have HB3 : Hid (Bk wy3 b19 (ptv pm).toArray 37) := Lib.hid (HF3.out.keep HB19.out (fun h => h))
            have HKL := Lib.hid HIT.out.kept
            have HGQ := Lib.hid HIT.out.going
            clear HFW HRT HST HFT HPT HB19 HJ HLO HHI HDA HDC HLA HLC HLM HF0_ HFd HF1 HF2 HF3 HE1 HGD HO2 HG2 HO3 HG3 HEND hPM
            go_wp2
            obtain ⟨ka, kcp, hvk, -, -, -, -, -⟩ := HR3.out.k.form
            cases hvk
            go_loopw [7, 20] (fun v7 jj W => ∃ j : Nat, j ≤ kept.length ∧ jj = .int .i64 j ∧ Rws W p hdn kept (gone ++ (kept.take j).filter (gq pm)) going (.slice (some ⟨g7, 0, none⟩) hdn.length cap7) (.slice ka kept.length kcp) v7 u8 ∧ SpAt W p stn (.slice (some ⟨g7, 0, none⟩) hdn.length cap7) (.slice ka kept.length kcp) v7 u8 ∧ p < W.heap.size ∧ Fr0 w W ∧ Bk W b19 (ptv pm).toArray 37 ∧ v7.ownBlock ≠ some b19) (fun _ jj _ => kept.length - (intOf jj).toNat)
            case atStart => exact ⟨0, Nat.zero_le _, rfl, by rw [List.take_zero, List.filter_nil, List.append_nil]; exact HR3.out, HS3.out, HPT3.out, HFT3.out, HB3.out, (HNB.out b19 (Nat.le_refl _)).2.1⟩
            case round =>
              obtain ⟨j, hj, rfl, hR, hS, hP, hF, hB, hN⟩ := hrel
              by_cases hjl : j < kept.length
              · obtain ⟨b4, o4, rfl, hat⟩ := RowN.at_ hR.k hjl
                have HAT := Lib.hid hat
                have cK := hat _ hR.k
                have HK12 := Lib.hid (HKL.out _ (List.getElem_mem hjl)).1
                have HTK : Hid ((kept.take (j + 1)).filter (gq pm) = (kept.take j).filter (gq pm) ++ (if gq pm kept[j] = true then [kept[j]] else [])) := Lib.hid (by
                  rw [List.take_succ_eq_append_getElem hjl, List.filter_append, List.filter_cons, List.filter_nil])
                have HGL : Hid ((gone ++ (kept.take j).filter (gq pm)).length ≤ 100000) := Lib.hid (by
                  have e1 := List.length_filter_le (gq pm) (kept.take j)
                  have e2 : (kept.take j).length ≤ kept.length := by rw [List.length_take]; omega
                  rw [List.length_append]
                  omega)
                generalize (kept.take j).filter (gq pm) = flt at *
                generalize kept[j] = kj at *
                obtain ⟨pa, po⟩ := pm
                have cA : wr.cell? ⟨b19, 0, none⟩ = some (.int .i64 (sc pa : Int)) := Bk.cell hB 0
                have cB : wr.cell? ⟨b19, 1, none⟩ = some (.int .i64 (scO po)) := Bk.cell hB 1
                have HR := Lib.hid hR
                have HS := Lib.hid hS
                have HP := Lib.hid hP
                have HF := Lib.hid hF
                have HB := Lib.hid hB
                have HN := Lib.hid hN
                have hs3 : b19 < wr.heap.size := Bk.lt hB
                clear hat hR hS hP hF hB hN
                have HPA : Hid (pa < 12) := Lib.hid (HGQ.out pa (by simp [pl])).1
                have HNE : Hid (∀ q, q < 12 → kj ≠ q → ((sc kj : Int) == (sc q : Int)) = false ∧ (sc kj == sc q) = false) := Lib.hid (fun q hq hne => by
                  have h : sc kj ≠ sc q := fun e => hne (sc_inj HK12.out hq e)
                  refine ⟨?_, by simpa using h⟩
                  rw [beq_eq_false_iff_ne]; omega)
                by_cases hka : kj = pa
                · subst hka
                  have HGT : Hid (gq (kj, po) kj = true) := Lib.hid (by simp [gq])
                  clear cB
                  go_wp2
                  go_quiet (fail)
                  have HRq := Lib.hid (HR.out.keep (Fr.drewN (Fr.refl (fun _ => False) wr) nq) (fun _ _ h => h))
                  have HSq := Lib.hid (HS.out.keep0 (Fr.drewN (Fr.refl (fun _ => False) wr) nq))
                  have HPq : Hid (p < (wr.drewN nq).heap.size) := HP
                  have HFq := Lib.hid (Fr.drewN HF.out nq)
                  have HBq : Hid (Bk (wr.drewN nq) b19 (ptv (kj, po)).toArray 37) := HB
                  have hs4 : b19 < (wr.drewN nq).heap.size := hs3
                  have cKq := HAT.out _ HRq.out.k
                  clear cK cA HR HS HP HF HB
                  generalize wr.drewN nq = wq at *
                  go_wp2_with ((at_builtin; refine wpList_plain rfl fun K hK => ?_; obtain ⟨v6, w6, hr_, hr1, hs1, hp1, hf1, hb1, hn1⟩ := app_g HRq.out HSq.out HLL.out HPq.out kj HGL.out; refine GApp.wp_append_run (.tmp 232) (.tmp 237) 31 (by rfl) _ _ _ (by rfl) (by rfl) hr_ ?_; refine hK _ _ ?_; have HR6 := Lib.hid hr1; have HS6 := Lib.hid hs1; have HP6 := Lib.hid hp1; have HFF6 := Lib.hid hf1; have HB6 := Lib.hid hb1; have HNB6 := Lib.hid hn1; clear hr_ hr1 hs1 hp1 hf1 hb1 hn1))
                  go_roundw
                  case rel => exact ⟨j + 1, by omega, by go_num, by rw [HTK.out, if_pos HGT.out, ← List.append_assoc]; exact HR6.out, HS6.out, HP6.out, HFF6.out _ HFq.out HBW.out, HB6.out _ _ _ (.inr ⟨hs4, HN.out⟩) HBq.out, fun e => (HNB6.out _ e).elim HN.out (fun h => by omega)⟩
                  case measure => simp [intOf]; omega
                · obtain ⟨e1, e2⟩ := HNE.out pa HPA.out hka
                  cases po with
                  | none =>
                    simp only [scO] at cB
                    have e3 : ((sc kj : Int) == (-1 : Int)) = false := by rw [beq_eq_false_iff_ne]; omega
                    have HGT : Hid (gq (pa, none) kj = false) := Lib.hid (by simp [gq, hka])
                    have hkh := Lib.hid hka
                    clear hka
                    go_wp2
                    go_quiet (fail)
                    go_wp2
                    go_roundw
                    case rel => exact ⟨j + 1, by omega, by go_num, by rw [HTK.out, if_neg (by rw [HGT.out]; exact Bool.false_ne_true), List.append_nil]; exact HR.out.keep (Fr.drewN (Fr.refl (fun _ => False) wr) nq) (fun _ _ h => h), HS.out.keep0 (Fr.drewN (Fr.refl (fun _ => False) wr) nq), HP.out, Fr.drewN HF.out nq, HB.out, HN.out⟩
                    case measure => simp [intOf]; omega
                  | some pj =>
                    simp only [scO] at cB
                    have HPJ : Hid (pj < 12) := Lib.hid (HGQ.out pj (by simp [pl])).1
                    by_cases hkb : kj = pj
                    · subst hkb
                      have HGT : Hid (gq (pa, some kj) kj = true) := Lib.hid (by simp [gq])
                      have hkh := Lib.hid hka
                      clear hka
                      go_wp2
                      go_quiet (fail)
                      have HRq := Lib.hid (HR.out.keep (Fr.drewN (Fr.refl (fun _ => False) wr) nq) (fun _ _ h => h))
                      have HSq := Lib.hid (HS.out.keep0 (Fr.drewN (Fr.refl (fun _ => False) wr) nq))
                      have HPq : Hid (p < (wr.drewN nq).heap.size) := HP
                      have HFq := Lib.hid (Fr.drewN HF.out nq)
                      have HBq : Hid (Bk (wr.drewN nq) b19 (ptv (pa, some kj)).toArray 37) := HB
                      have hs4 : b19 < (wr.drewN nq).heap.size := hs3
                      have cKq := HAT.out _ HRq.out.k
                      clear cK cA HR HS HP HF HB
                      generalize wr.drewN nq = wq at *
                      go_wp2_with ((at_builtin; refine wpList_plain rfl fun K hK => ?_; obtain ⟨v6, w6, hr_, hr1, hs1, hp1, hf1, hb1, hn1⟩ := app_g HRq.out HSq.out HLL.out HPq.out kj HGL.out; refine GApp.wp_append_run (.tmp 232) (.tmp 237) 31 (by rfl) _ _ _ (by rfl) (by rfl) hr_ ?_; refine hK _ _ ?_; have HR6 := Lib.hid hr1; have HS6 := Lib.hid hs1; have HP6 := Lib.hid hp1; have HFF6 := Lib.hid hf1; have HB6 := Lib.hid hb1; have HNB6 := Lib.hid hn1; clear hr_ hr1 hs1 hp1 hf1 hb1 hn1))
                      go_roundw
                      case rel => exact ⟨j + 1, by omega, by go_num, by rw [HTK.out, if_pos HGT.out, ← List.append_assoc]; exact HR6.out, HS6.out, HP6.out, HFF6.out _ HFq.out HBW.out, HB6.out _ _ _ (.inr ⟨hs4, HN.out⟩) HBq.out, fun e => (HNB6.out _ e).elim HN.out (fun h => by omega)⟩
                      case measure => simp [intOf]; omega
                    · obtain ⟨e3, e4⟩ := HNE.out pj HPJ.out hkb
                      have HGT : Hid (gq (pa, some pj) kj = false) := Lib.hid (by simp [gq, hka, hkb])
                      have hkh := Lib.hid hka
                      have hkh2 := Lib.hid hkb
                      clear hka hkb
                      go_wp2
                      go_quiet (fail)
                      go_wp2
                      go_roundw
                      case rel => exact ⟨j + 1, by omega, by go_num, by rw [HTK.out, if_neg (by rw [HGT.out]; exact Bool.false_ne_true), List.append_nil]; exact HR.out.keep (Fr.drewN (Fr.refl (fun _ => False) wr) nq) (fun _ _ h => h), HS.out.keep0 (Fr.drewN (Fr.refl (fun _ => False) wr) nq), HP.out, Fr.drewN HF.out nq, HB.out, HN.out⟩
                      case measure => simp [intOf]; omega
              · have hje : kept.take j = kept := List.take_of_length_le (by omega)
                rw [hje] at hR
                clear HR3 HS3 HFT3 HPT3 HB3
                have HL3 : Hid ((going).length ≤ 100000) := Lib.hid (by omega)
                have HKF := Lib.hid (List.length_filter_le (gq pm) kept)
                have HR := Lib.hid hR
                have HS := Lib.hid hS
                have HP := Lib.hid hP
                have HF := Lib.hid hF
                have cA : wr.cell? ⟨b19, 0, none⟩ = some (.int .i64 (sc pm.1 : Int)) := Bk.cell hB 0
                have HB := Lib.hid hB
                have hs3 : b19 < wr.heap.size := Bk.lt hB
                have HNQ := Lib.hid (HNB.out b19 (Nat.le_refl _)).2.2
                clear hR hS hP hF hB hN
                obtain ⟨pa, po⟩ := pm
                cases po with
                | none =>
                  go_wp2_with ((at_builtin; refine wpList_plain rfl fun K hK => ?_; obtain ⟨v6, w6, hr_, hr1, hs1, hp1, hf1, hb1, hn1⟩ := app_q HR.out HS.out HLL.out HP.out pa HL3.out; refine GApp.wp_append_run (.tmp 239) (.tmp 242) 31 (by rfl) _ _ _ (by rfl) (by rfl) hr_ ?_; refine hK _ _ ?_; have hb6 := hb1 b19 _ _ (.inr ⟨hs3, HNQ.out⟩) HB.out; have d1 : w6.cell? ⟨b19, 1, none⟩ = some (.int .i64 ((-1))) := Bk.cell hb6 1; clear hb6; have HR6 := Lib.hid hr1; have HS6 := Lib.hid hs1; have HP6 := Lib.hid hp1; have HFF6 := Lib.hid hf1; have HB6 := Lib.hid hb1; have HNB6 := Lib.hid hn1; clear hr_ hr1 hs1 hp1 hf1 hb1 hn1))
                  have HRT : Hid (Rws w6 p hdn kept (gone ++ kept.filter (gq (pa, none))) (going ++ pl (pa, none)) (.slice (some ⟨g7, 0, none⟩) hdn.length cap7) _ u7 v6) := HR6
                  have HST := HS6
                  have HPT := HP6
                  have HFT := Lib.hid (HFF6.out _ HF.out HBW.out)
                  have HLG : Hid (∀ L : List Nat, L = gone ++ kept.filter (gq (pa, none)) → L.length ≤ 12 * (k + 1)) := Lib.hid (fun L e => by have := HKF.out; rw [e, List.length_append]; omega)
                  have HLQ : Hid (∀ L : List Nat, L = going ++ pl (pa, none) → L.length ≤ 2 * (k + 1)) := Lib.hid (fun L e => by rw [e, List.length_append]; show going.length + 1 ≤ _; omega)
                  clear HB HNQ HR HS HP HF HR6 HS6 HP6 HFF6 HB6 HNB6  HL3 HKF cA hs3 HNB HPB
                  generalize (some (⟨g7, 0, none⟩ : Addr)) = ha7 at *
                  as_aux_lemma =>
                    have hn12 : (hp hdn).length ≤ 12 := by
                      have e1 := HIT.out.count
                      have e2 := countU_le (stn)
                      have e3 := HIT.out.len
                      omega
                    obtain ⟨ha, hcp, hvh, hle, hmx, hrd, -, -⟩ := HRT.out.h.form
                    cases hvh
                    have HRDH := Lib.hid hrd
                    have hhl : hdn.length ≤ 12 := by
                      have : ∀ h : List (Nat × Option Nat), h.length ≤ (hp h).length := fun h => by
                        induction h with
                        | nil => exact Nat.le_refl _
                        | cons a r ih => rw [hp_cons, List.length_append, List.length_cons]; have : 1 ≤ (pl a).length := by simp [pl]
                                         omega
                      have := this hdn
                      omega
                    clear hrd
                    go_loop [22, 23] (fun nn jj => ∃ j : Nat, j ≤ hdn.length ∧ jj = .int .i64 j ∧ nn = .int .i64 ((hp (hdn.take j)).length : Int)) (fun _ jj => hdn.length - (intOf jj).toNat)
                    case atStart => exact ⟨0, Nat.zero_le _, rfl, rfl⟩
                    case round =>
                      obtain ⟨j, hj, rfl, rfl⟩ := hrel
                      have hnj : (hp (hdn.take j)).length ≤ 12 := by
                        have e : hp hdn = hp (hdn.take j) ++ hp (hdn.drop j) := by rw [← hp_append, List.take_append_drop]
                        rw [e, List.length_append] at hn12
                        omega
                      by_cases hjl : j < hdn.length
                      · obtain ⟨b2, o2, rfl, hcell⟩ := HRDH.out j hjl
                        have cB : w6.cell? ⟨b2, o2 + j * 34 + 1, none⟩ = some (.int .i64 (scO hdn[j].2)) := hcell 1 _ rfl
                        have HTK : Hid (hp (hdn.take (j + 1)) = hp (hdn.take j) ++ pl hdn[j]) := Lib.hid (by rw [List.take_succ_eq_append_getElem hjl, hp_append, hp_one])
                        generalize hdn[j] = pj at *
                        obtain ⟨i1, oj⟩ := pj
                        generalize (hp (hdn.take j)) = hpj at *
                        clear hcell HRDH
                        cases oj with
                        | none =>
                          simp only [scO] at cB
                          go_wp2
                          go_round
                          case rel => exact ⟨j + 1, by omega, by go_num, by rw [HTK.out, List.length_append]; show _ = Value.int .i64 ((hpj.length + 1 : Nat) : Int); go_num⟩
                          case measure => simp [intOf]; omega
                        | some j1 =>
                          simp only [scO] at cB
                          generalize sc j1 = q1 at *
                          go_wp2
                          go_round
                          case rel => exact ⟨j + 1, by omega, by go_num, by rw [HTK.out, List.length_append]; show _ = Value.int .i64 ((hpj.length + 2 : Nat) : Int); go_num⟩
                          case measure => simp [intOf]; omega
                      · have hje : hdn.take j = hdn := List.take_of_length_le (by omega)
                        rw [hje] at hnj ⊢
                        obtain ⟨g, c, hs, -⟩ := HST.out
                        have HUS : Hid (Calls Try.prog 10 #[.agg (sval (spS (stn)) g 0 c)] w6 fun e w' => e = .returned (.int .i64 ((hp hdn).length : Int)) ∧ Fr0 w6 w') := Lib.hid (by
                          have := Used_calls (spS (stn)) g 0 c w6 (spS_ok HIT.out.len HIT.out.low) hs.rd
                          rw [show countU (spS (stn)).st = (hp hdn).length from HIT.out.count] at this
                          exact this)
                        have HBP := Lib.hid hs.blk
                        have HIS : Hid ((Try.prog.info? 26).map (·.size) = some (sval (spS (stn)) g 0 c).size) := Lib.hid (by kernel_rfl)
                        generalize sval (spS (stn)) g 0 c = SVT at *
                        generalize (hp hdn).length = hn at *
                        clear hs
                        go_wp2_with (first | ((with_reducible show wpList _ _ _ ({ dst := _, op := Op.load 26 _, type := _, pos := _, after := _, guard := _ } :: _) _ _); refine wpList_load_row_g (by rfl) 26 _ rfl p rfl 26 _ (0, 0) _ HBP.out Try.underlying26 rfl HIS.out ?_) | (go_at_call 10; (with_reducible refine HUS.out.mono ?_); rintro e w8 ⟨rfl, hf8⟩; have HF8 := Lib.hid hf8; clear hf8))
                        go_roundw
                        case rel => exact ⟨k + 1, _, _, _, _, _, by omega, by go_num, HIT.out, HRT.out.keep HF8.out (fun _ _ h => h), HST.out.keep0 HF8.out, hkl, HLG.out _ rfl, HLQ.out _ rfl, HF8.out.lt HPT.out, HFT.out.then0 HF8.out⟩
                        case measure => simp [intOf]; omega
                | some pj =>
                  have HL4 : Hid ((going ++ [pa]).length ≤ 100000) := Lib.hid (by rw [List.length_append]; show going.length + 1 ≤ 100000; omega)
                  go_wp2_with (first | (at_builtin; refine wpList_plain rfl fun K hK => ?_; obtain ⟨v6, w6, hr_, hr1, hs1, hp1, hf1, hb1, hn1⟩ := app_q HR.out HS.out HLL.out HP.out pa HL3.out; refine GApp.wp_append_run (.tmp 239) (.tmp 242) 31 (by rfl) _ _ _ (by rfl) (by rfl) hr_ ?_; refine hK _ _ ?_; have hb6 := hb1 b19 _ _ (.inr ⟨hs3, HNQ.out⟩) HB.out; have d1 : w6.cell? ⟨b19, 1, none⟩ = some (.int .i64 ((sc pj : Int))) := Bk.cell hb6 1; clear hb6; have HR6 := Lib.hid hr1; have HS6 := Lib.hid hs1; have HP6 := Lib.hid hp1; have HFF6 := Lib.hid hf1; have HB6 := Lib.hid hb1; have HNB6 := Lib.hid hn1; clear hr_ hr1 hs1 hp1 hf1 hb1 hn1) | (at_builtin; refine wpList_plain rfl fun K hK => ?_; obtain ⟨v7, w7, hr_, hr1, hs1, hp1, hf1, hb1, hn1⟩ := app_q HR6.out HS6.out HLL.out HP6.out pj HL4.out; refine GApp.wp_append_run (.tmp 247) (.tmp 250) 31 (by rfl) _ _ _ (by rfl) (by rfl) hr_ ?_; refine hK _ _ ?_; have HR7 := Lib.hid hr1; have HS7 := Lib.hid hs1; have HP7 := Lib.hid hp1; have HFF7 := Lib.hid hf1; have HB7 := Lib.hid hb1; have HNB7 := Lib.hid hn1; clear hr_ hr1 hs1 hp1 hf1 hb1 hn1))
                  have HRT : Hid (Rws w7 p hdn kept (gone ++ kept.filter (gq (pa, some pj))) (going ++ pl (pa, some pj)) (.slice (some ⟨g7, 0, none⟩) hdn.length cap7) _ u7 v7) := Lib.hid (by have := HR7.out; rw [List.append_assoc] at this; exact this)
                  have HST := HS7
                  have HPT := HP7
                  have HFT := Lib.hid (HFF7.out _ (HFF6.out _ HF.out HBW.out) HBW.out)
                  have HLG : Hid (∀ L : List Nat, L = gone ++ kept.filter (gq (pa, some pj)) → L.length ≤ 12 * (k + 1)) := Lib.hid (fun L e => by have := HKF.out; rw [e, List.length_append]; omega)
                  have HLQ : Hid (∀ L : List Nat, L = going ++ pl (pa, some pj) → L.length ≤ 2 * (k + 1)) := Lib.hid (fun L e => by rw [e, List.length_append]; show going.length + 2 ≤ _; omega)
                  clear HB HNQ HR HS HP HF HR6 HS6 HP6 HFF6 HB6 HNB6 HR7 HS7 HP7 HFF7 HB7 HNB7 HL4 HL3 HKF cA hs3 HNB HPB
                  generalize (some (⟨g7, 0, none⟩ : Addr)) = ha7 at *
                  as_aux_lemma =>
                    have hn12 : (hp hdn).length ≤ 12 := by
                      have e1 := HIT.out.count
                      have e2 := countU_le (stn)
                      have e3 := HIT.out.len
                      omega
                    obtain ⟨ha, hcp, hvh, hle, hmx, hrd, -, -⟩ := HRT.out.h.form
                    cases hvh
                    have HRDH := Lib.hid hrd
                    have hhl : hdn.length ≤ 12 := by
                      have : ∀ h : List (Nat × Option Nat), h.length ≤ (hp h).length := fun h => by
                        induction h with
                        | nil => exact Nat.le_refl _
                        | cons a r ih => rw [hp_cons, List.length_append, List.length_cons]; have : 1 ≤ (pl a).length := by simp [pl]
                                         omega
                      have := this hdn
                      omega
                    clear hrd
                    go_loop [22, 23] (fun nn jj => ∃ j : Nat, j ≤ hdn.length ∧ jj = .int .i64 j ∧ nn = .int .i64 ((hp (hdn.take j)).length : Int)) (fun _ jj => hdn.length - (intOf jj).toNat)
                    case atStart => exact ⟨0, Nat.zero_le _, rfl, rfl⟩
                    case round =>
                      obtain ⟨j, hj, rfl, rfl⟩ := hrel
                      have hnj : (hp (hdn.take j)).length ≤ 12 := by
                        have e : hp hdn = hp (hdn.take j) ++ hp (hdn.drop j) := by rw [← hp_append, List.take_append_drop]
                        rw [e, List.length_append] at hn12
                        omega
                      by_cases hjl : j < hdn.length
                      · obtain ⟨b2, o2, rfl, hcell⟩ := HRDH.out j hjl
                        have cB : w7.cell? ⟨b2, o2 + j * 34 + 1, none⟩ = some (.int .i64 (scO hdn[j].2)) := hcell 1 _ rfl
                        have HTK : Hid (hp (hdn.take (j + 1)) = hp (hdn.take j) ++ pl hdn[j]) := Lib.hid (by rw [List.take_succ_eq_append_getElem hjl, hp_append, hp_one])
                        generalize hdn[j] = pj at *
                        obtain ⟨i1, oj⟩ := pj
                        generalize (hp (hdn.take j)) = hpj at *
                        clear hcell HRDH
                        cases oj with
                        | none =>
                          simp only [scO] at cB
                          go_wp2
                          go_round
                          case rel => exact ⟨j + 1, by omega, by go_num, by rw [HTK.out, List.length_append]; show _ = Value.int .i64 ((hpj.length + 1 : Nat) : Int); go_num⟩
                          case measure => simp [intOf]; omega
                        | some j1 =>
                          simp only [scO] at cB
                          generalize sc j1 = q1 at *
                          go_wp2
                          go_round
                          case rel => exact ⟨j + 1, by omega, by go_num, by rw [HTK.out, List.length_append]; show _ = Value.int .i64 ((hpj.length + 2 : Nat) : Int); go_num⟩
                          case measure => simp [intOf]; omega
                      · have hje : hdn.take j = hdn := List.take_of_length_le (by omega)
                        rw [hje] at hnj ⊢
                        obtain ⟨g, c, hs, -⟩ := HST.out
                        have HUS : Hid (Calls Try.prog 10 #[.agg (sval (spS (stn)) g 0 c)] w7 fun e w' => e = .returned (.int .i64 ((hp hdn).length : Int)) ∧ Fr0 w7 w') := Lib.hid (by
                          have := Used_calls (spS (stn)) g 0 c w7 (spS_ok HIT.out.len HIT.out.low) hs.rd
                          rw [show countU (spS (stn)).st = (hp hdn).length from HIT.out.count] at this
                          exact this)
                        have HBP := Lib.hid hs.blk
                        have HIS : Hid ((Try.prog.info? 26).map (·.size) = some (sval (spS (stn)) g 0 c).size) := Lib.hid (by kernel_rfl)
                        generalize sval (spS (stn)) g 0 c = SVT at *
                        generalize (hp hdn).length = hn at *
                        clear hs
                        go_wp2_with (first | ((with_reducible show wpList _ _ _ ({ dst := _, op := Op.load 26 _, type := _, pos := _, after := _, guard := _ } :: _) _ _); refine wpList_load_row_g (by rfl) 26 _ rfl p rfl 26 _ (0, 0) _ HBP.out Try.underlying26 rfl HIS.out ?_) | (go_at_call 10; (with_reducible refine HUS.out.mono ?_); rintro e w8 ⟨rfl, hf8⟩; have HF8 := Lib.hid hf8; clear hf8))
                        go_roundw
                        case rel => exact ⟨k + 1, _, _, _, _, _, by omega, by go_num, HIT.out, HRT.out.keep HF8.out (fun _ _ h => h), HST.out.keep0 HF8.out, hkl, HLG.out _ rfl, HLQ.out _ rfl, HF8.out.lt HPT.out, HFT.out.then0 HF8.out⟩
                        case measure => simp [intOf]; omega
      · skip
        by_cases h0x : x % 5 = 0
        · skip
          have hrem : Int.tmod (x : Int) 5 = 0 := by rw [show (5 : Int) = ((5 : Nat) : Int) from rfl, ← Int.ofNat_tmod, h0x]; rfl
          obtain ⟨g, c, hs, hn1, hn2, hn3, hn4⟩ := HSP.out
          rcases take1_all HIN.out hs with htake | ⟨fi, hi, htake⟩
          · clear hs hn1 hn2 hn3 hn4
            have HTAKE := Lib.hid htake
            clear htake
            go_wp2_with (go_at_call 6; (with_reducible refine HTAKE.out.mono ?_); rintro e w5 ⟨rfl, hn⟩; have HN5 := Lib.hid hn; clear hn)
            go_roundw
            case rel => exact ⟨k + 1, _, _, _, _, _, by omega, by go_num, HIN.out, HRW.out.keep HN5.out (fun _ _ h => h), HSP.out.keep0 HN5.out, hkl, by omega, by omega, HN5.out.lt hpw, HF.out.then0 HN5.out⟩
            case measure => simp [intOf]; omega
          · clear hs hn1 hn2 hn3 hn4
            as_aux_lemma =>
              have HTAKE := Lib.hid htake
              have NBI := Lib.hid (nobody HIN.out hi)
              have HIT := Lib.hid (HIN.out.take1 hi)
              have HLL : Hid ((st.set fi 2).length = 12) := Lib.hid HIT.out.len
              have HHL : Hid (held.length ≤ 12) := Lib.hid (by
                have e1 := HIN.out.count
                have e2 := countU_le st
                have e3 := HIN.out.len
                have e4 := hp_len held
                omega)
              have HBT : Hid (Try.prog.built 37 [(0, .int .i64 (sc fi : Int)), (1, .int .i64 (-1 : Int))] = some (ptv (fi, none)).toArray) := Lib.hid (built2 _ _)
              have hz : ∀ W, (zeroValue 37).run Try.prog W = .ok (.agg PZ) W := zero_p
              clear htake hi 
              obtain ⟨ha, hcp, hvh, -, -, -, -, -⟩ := HRW.out.h.form
              cases hvh
              obtain ⟨ga, gcp, hvg, -, -, -, -, -⟩ := HRW.out.g.form
              cases hvg
              obtain ⟨qa, qcp, hvq, -, -, -, -, -⟩ := HRW.out.q.form
              cases hvq
              go_wp2_with (first | (go_at_call 6; (with_reducible refine HTAKE.out.mono ?_); rintro e w5 ⟨rfl, hn⟩; have HN5 := Lib.hid hn; have HZ5 := Lib.hid (Bk.new w5 (.cells PZ 37)); clear hn) | ((with_reducible show wpList _ _ _ ({ dst := _, op := Op.build 37 _, type := _, pos := _, after := _, guard := _ } :: _) _ _); refine build_ev rfl 37 _ rfl [(0, .int .i64 (sc fi : Int)), (1, .int .i64 (-1 : Int))] (by simp [Act.eval, Act.put]) (ptv (fi, none)).toArray HBT.out ?_) | ((with_reducible show wpList _ _ _ ({ dst := _, op := Op.store 37 _ _, type := _, pos := _, after := _, guard := _ } :: _) _ _); refine wpList_store_row rfl 37 _ _ rfl w5.heap.size (ptv (fi, none)).toArray rfl rfl 37 PZ HZ5.out (info_ptv _) (by rw [PZ_size, ptv_size]) (ptv_all _) ?_))
              have hft : Fr0 w5 ((w5.alloc (.cells PZ 37)).setRow w5.heap.size (ptv (fi, none)).toArray) := ArrKit.Fr.row (Fr.alloc (Fr.refl _ _) _) _ _ (.inl (Nat.le_refl _))
              have r0 := HRW.out.keep HN5.out.fr (fun i h e => by omega)
              have s0 := SpAt.now (st' := st.set fi 2) (HRW.out) hpw HN5.out
              have HRT := Lib.hid (r0.keep hft (fun _ _ h => h))
              have HST := Lib.hid (s0.keep0 hft)
              have HFT : Hid (Fr0 w ((w5.alloc (.cells PZ 37)).setRow w5.heap.size (ptv (fi, none)).toArray)) := Lib.hid ((Fr.newG HF.out HN5.out.fr HBW.out).then0 hft)
              have HPT : Hid (p < (((w5.alloc (.cells PZ 37)).setRow w5.heap.size (ptv (fi, none)).toArray)).heap.size) := Lib.hid (hft.lt (HN5.out.fr.lt hpw))
              have HB13 : Hid (Bk ((w5.alloc (.cells PZ 37)).setRow w5.heap.size (ptv (fi, none)).toArray) w5.heap.size (ptv (fi, none)).toArray 37) := Lib.hid (ArrKit.Bk.row HZ5.out _)
              clear r0 s0 hft HTAKE HN5 HZ5 HIN HRW HSP HF c0 HBT
              generalize ((w5.alloc (.cells PZ 37)).setRow w5.heap.size (ptv (fi, none)).toArray) = wt at *
              generalize w5.heap.size = b13 at *
              have hhl2 : held.length ≤ 12 := HHL.out
              go_loopw [14] (fun jj W => ∃ j : Nat, j ≤ held.length ∧ jj = .int .i64 j ∧ Fr0 wt W) (fun jj _ => held.length - (intOf jj).toNat)
              case atStart => exact ⟨0, Nat.zero_le _, rfl, Fr.refl _ _⟩
              case round =>
                obtain ⟨m, hm, rfl, hFm⟩ := hrel
                have HFM := Lib.hid hFm
                clear hFm
                by_cases hml : m < held.length
                · have hRm := HRT.out.keep HFM.out (fun _ _ h => h)
                  obtain ⟨b2, o2, rfl, hat⟩ := RowP.at_ hRm.h hml
                  have HRG := Lib.hid (RowP.rg hRm.h hml)
                  obtain ⟨q1, q2, q3⟩ := NBI.out.1 _ (List.getElem_mem hml)
                  have P0 : Hid ((ptv held[m]).toArray[0]? = some (.int .i64 (sc held[m].1 : Int))) := Lib.hid rfl
                  have P1 : Hid ((ptv held[m]).toArray[1]? = some (.int .i64 (scO held[m].2))) := Lib.hid rfl
                  have d0 : ((wr.alloc (.cells PZ 37)).setRow wr.heap.size (ptv held[m]).toArray).cell? ⟨wr.heap.size, 0, none⟩ = some (.int .i64 (sc held[m].1 : Int)) := (Bk.cell (ArrKit.Bk.row (Bk.new wr (.cells PZ 37)) _) 0).trans P0.out
                  have d1 : ((wr.alloc (.cells PZ 37)).setRow wr.heap.size (ptv held[m]).toArray).cell? ⟨wr.heap.size, 1, none⟩ = some (.int .i64 (scO held[m].2)) := (Bk.cell (ArrKit.Bk.row (Bk.new wr (.cells PZ 37)) _) 1).trans P1.out
                  have HIX := Lib.hid (info_ptv held[m])
                  have HIY := Lib.hid (info_ptv2 held[m])
                  have HSZ := Lib.hid (PZ_size.trans (ptv_size held[m]).symm)
                  have HAL := Lib.hid (ptv_all held[m])
                  have HZR := Lib.hid (Bk.new wr (.cells PZ 37))
                  have HFX : Hid (Fr0 wr ((wr.alloc (.cells PZ 37)).setRow wr.heap.size (ptv held[m]).toArray)) := Lib.hid (ArrKit.Fr.row (Fr.alloc (Fr.refl _ _) _) _ _ (.inl (Nat.le_refl _)))
                  clear hRm hat P0 P1
                  generalize ptv held[m] = PV at *
                  generalize sc held[m].1 = qa at *
                  generalize scO held[m].2 = qb at *
                  go_wp2_with (first | ((with_reducible show wpList _ _ _ ({ dst := _, op := Op.load 37 _, type := _, pos := _, after := _, guard := _ } :: _) _ _); refine wpList_load_mid rfl 37 _ rfl b2 (o2 + m * 34) rfl PV _ HRG.out Try.underlying37 rfl HIY.out ?_) | ((with_reducible show wpList _ _ _ ({ dst := _, op := Op.store 37 _ _, type := _, pos := _, after := _, guard := _ } :: _) _ _); refine wpList_store_row rfl 37 _ _ rfl wr.heap.size PV.toArray rfl rfl 37 PZ HZR.out HIX.out HSZ.out HAL.out ?_))
                  go_roundw
                  case rel => exact ⟨m + 1, by omega, by go_num, HFM.out.then0 HFX.out⟩
                  case measure => simp [intOf]; omega
                · have HRT2 := Lib.hid (HRT.out.keep HFM.out (fun _ _ h => h))
                  have HST2 := Lib.hid (HST.out.keep0 HFM.out)
                  have HFT2 := Lib.hid (HFT.out.then0 HFM.out)
                  have HPT2 : Hid (p < wr.heap.size) := Lib.hid (HFM.out.lt HPT.out)
                  have HB2 := Lib.hid (HFM.out.keep HB13.out (fun h => h))
                  clear HRT HST HFT HPT HB13 HFM
                  have hgl2 : gone.length ≤ 3600 := by omega
                  have hql2 : going.length ≤ 600 := by omega
                  go_wp2
                  go_loop [16] (fun jj => ∃ j : Nat, j ≤ gone.length + going.length ∧ jj = .int .i64 j) (fun jj => gone.length + going.length - (intOf jj).toNat)
                  case atStart => exact ⟨0, Nat.zero_le _, rfl⟩
                  case round =>
                    obtain ⟨m2, hm2, rfl⟩ := hrel
                    by_cases hg2 : m2 < gone.length
                    · have hs2 : m2 < gone.length + going.length := by omega
                      obtain ⟨b3, o3, rfl, hat⟩ := RowN.at_ HRT2.out.g hg2
                      have cG := hat _ HRT2.out.g
                      obtain ⟨q1, q2⟩ := NBI.out.2.1 _ (List.getElem_mem hg2)
                      have r1 : ((sc gone[m2] : Int) == (-1 : Int)) = false := by rw [beq_eq_false_iff_ne]; omega
                      clear hat
                      generalize sc gone[m2] = qn at *
                      go_wp2
                      go_round
                      case rel => exact ⟨m2 + 1, by omega, by go_num⟩
                      case measure => simp [intOf]; omega
                    · by_cases hs2 : m2 < gone.length + going.length
                      · obtain ⟨m3, rfl⟩ : ∃ m3, m2 = gone.length + m3 := ⟨m2 - gone.length, by omega⟩
                        have hq3 : m3 < going.length := by omega
                        have hw3 : IntKind.i64.wrap (((gone.length + m3 : Nat) : Int) - (gone.length : Int)) = (m3 : Int) := by rw [show ((gone.length + m3 : Nat) : Int) - (gone.length : Int) = (m3 : Int) by omega, IntKind.wrap_i64]; omega
                        obtain ⟨b3, o3, rfl, hat⟩ := RowN.at_ HRT2.out.q hq3
                        have cG := hat _ HRT2.out.q
                        obtain ⟨q1, q2⟩ := NBI.out.2.2 _ (List.getElem_mem hq3)
                        have r1 : ((sc going[m3] : Int) == (-1 : Int)) = false := by rw [beq_eq_false_iff_ne]; omega
                        clear hat
                        generalize sc going[m3] = qn at *
                        go_wp2
                        go_round
                        case rel => exact ⟨gone.length + m3 + 1, by omega, by go_num⟩
                        case measure => simp [intOf]; omega
                      · obtain ⟨i1, hy0, hz0, hz1, hz2⟩ := info_parts infoP
                        have HJ : Hid (Try.prog.info? 37 = some i1 ∧ i1.zero = some (.agg (PC 0 0 PtrAsk.Z).toArray) ∧ i1.size = 34 ∧ i1.bytes = 48) := Lib.hid ⟨hy0, hz0, hz1, hz2⟩
                        clear hy0 hz0 hz1 hz2
                        have HX34 := Lib.hid (ptv_size (fi, none))
                        go_wp2_with (first | ((with_reducible show wpList _ _ _ ({ dst := _, op := Op.load 37 _, type := _, pos := _, after := _, guard := _ } :: _) _ _); refine wpList_load_row_g (by rfl) 37 _ rfl b13 rfl 37 _ (0, 0) _ HB2.out Try.underlying37 rfl (info_ptv _) ?_) | ((with_reducible show wpList _ _ _ ({ dst := _, op := Op.buildSlice 30 1 _, type := _, pos := _, after := _, guard := _ } :: _) _ _); refine wpList_plain rfl fun K hK => ?_; refine GApp.wp_buildSlice_one 30 _ rfl 37 i1 _ 34 Try.underlying30 HJ.out.1 HJ.out.2.1 HJ.out.2.2.1 (by decide) (by decide) (ptv (fi, none)).toArray HX34.out rfl ?_; refine hK _ _ ?_) | (at_builtin; refine wpList_plain rfl fun K hK => ?_; obtain ⟨v6, w6, hr_, hr1, hs1, hp1, hf1, hb1, hn1⟩ := app_h HRT2.out HST2.out HLL.out HPT2.out (fi, none) (Nat.le_trans HHL.out (by decide)); refine GApp.wp_append_run (.tmp 170) (.tmp 172) 30 (by rfl) _ _ _ (by rfl) (by rfl) hr_ ?_; refine hK _ _ ?_; have HR6 := Lib.hid hr1; have HS6 := Lib.hid hs1; have HP6 := Lib.hid hp1; have HFF6 := Lib.hid hf1; have HB6 := Lib.hid hb1; have HNB6 := Lib.hid hn1; clear hr_ hr1 hs1 hp1 hf1 hb1 hn1))
                        have HRT := HR6
                        have HST := HS6
                        have HPT := HP6
                        have HFT := Lib.hid (HFF6.out _ HFT2.out HBW.out)
                        clear HR6 HS6 HP6 HFF6 HB6 HRT2 HST2 HFT2 HPT2 HB2 HJ HX34 HNB6
                        generalize held ++ [(fi, none)] = hdn at *
                        generalize st.set fi 2 = stn at *
                        as_aux_lemma =>
                          have hn12 : (hp hdn).length ≤ 12 := by
                            have e1 := HIT.out.count
                            have e2 := countU_le (stn)
                            have e3 := HIT.out.len
                            omega
                          obtain ⟨ha, hcp, hvh, hle, hmx, hrd, -, -⟩ := HRT.out.h.form
                          cases hvh
                          have HRDH := Lib.hid hrd
                          have hhl : hdn.length ≤ 12 := by
                            have : ∀ h : List (Nat × Option Nat), h.length ≤ (hp h).length := fun h => by
                              induction h with
                              | nil => exact Nat.le_refl _
                              | cons a r ih => rw [hp_cons, List.length_append, List.length_cons]; have : 1 ≤ (pl a).length := by simp [pl]
                                               omega
                            have := this hdn
                            omega
                          clear hrd
                          go_loop [22, 23] (fun nn jj => ∃ j : Nat, j ≤ hdn.length ∧ jj = .int .i64 j ∧ nn = .int .i64 ((hp (hdn.take j)).length : Int)) (fun _ jj => hdn.length - (intOf jj).toNat)
                          case atStart => exact ⟨0, Nat.zero_le _, rfl, rfl⟩
                          case round =>
                            obtain ⟨j, hj, rfl, rfl⟩ := hrel
                            have hnj : (hp (hdn.take j)).length ≤ 12 := by
                              have e : hp hdn = hp (hdn.take j) ++ hp (hdn.drop j) := by rw [← hp_append, List.take_append_drop]
                              rw [e, List.length_append] at hn12
                              omega
                            by_cases hjl : j < hdn.length
                            · obtain ⟨b2, o2, rfl, hcell⟩ := HRDH.out j hjl
                              have cB : w6.cell? ⟨b2, o2 + j * 34 + 1, none⟩ = some (.int .i64 (scO hdn[j].2)) := hcell 1 _ rfl
                              have HTK : Hid (hp (hdn.take (j + 1)) = hp (hdn.take j) ++ pl hdn[j]) := Lib.hid (by rw [List.take_succ_eq_append_getElem hjl, hp_append, hp_one])
                              generalize hdn[j] = pj at *
                              obtain ⟨i1, oj⟩ := pj
                              generalize (hp (hdn.take j)) = hpj at *
                              clear hcell HRDH
                              cases oj with
                              | none =>
                                simp only [scO] at cB
                                go_wp2
                                go_round
                                case rel => exact ⟨j + 1, by omega, by go_num, by rw [HTK.out, List.length_append]; show _ = Value.int .i64 ((hpj.length + 1 : Nat) : Int); go_num⟩
                                case measure => simp [intOf]; omega
                              | some j1 =>
                                simp only [scO] at cB
                                generalize sc j1 = q1 at *
                                go_wp2
                                go_round
                                case rel => exact ⟨j + 1, by omega, by go_num, by rw [HTK.out, List.length_append]; show _ = Value.int .i64 ((hpj.length + 2 : Nat) : Int); go_num⟩
                                case measure => simp [intOf]; omega
                            · have hje : hdn.take j = hdn := List.take_of_length_le (by omega)
                              rw [hje] at hnj ⊢
                              obtain ⟨g, c, hs, -⟩ := HST.out
                              have HUS : Hid (Calls Try.prog 10 #[.agg (sval (spS (stn)) g 0 c)] w6 fun e w' => e = .returned (.int .i64 ((hp hdn).length : Int)) ∧ Fr0 w6 w') := Lib.hid (by
                                have := Used_calls (spS (stn)) g 0 c w6 (spS_ok HIT.out.len HIT.out.low) hs.rd
                                rw [show countU (spS (stn)).st = (hp hdn).length from HIT.out.count] at this
                                exact this)
                              have HBP := Lib.hid hs.blk
                              have HIS : Hid ((Try.prog.info? 26).map (·.size) = some (sval (spS (stn)) g 0 c).size) := Lib.hid (by kernel_rfl)
                              generalize sval (spS (stn)) g 0 c = SVT at *
                              generalize (hp hdn).length = hn at *
                              clear hs
                              go_wp2_with (first | ((with_reducible show wpList _ _ _ ({ dst := _, op := Op.load 26 _, type := _, pos := _, after := _, guard := _ } :: _) _ _); refine wpList_load_row_g (by rfl) 26 _ rfl p rfl 26 _ (0, 0) _ HBP.out Try.underlying26 rfl HIS.out ?_) | (go_at_call 10; (with_reducible refine HUS.out.mono ?_); rintro e w8 ⟨rfl, hf8⟩; have HF8 := Lib.hid hf8; clear hf8))
                              go_roundw
                              case rel => exact ⟨k + 1, _, _, _, _, _, by omega, by go_num, HIT.out, HRT.out.keep HF8.out (fun _ _ h => h), HST.out.keep0 HF8.out, hkl, by omega, by omega, HF8.out.lt HPT.out, HFT.out.then0 HF8.out⟩
                              case measure => simp [intOf]; omega
        · have h1x : x % 5 = 1 := by omega
          have hrem : Int.tmod (x : Int) 5 = 1 := by rw [show (5 : Int) = ((5 : Nat) : Int) from rfl, ← Int.ofNat_tmod, h1x]; rfl
          obtain ⟨g, c, hs, hn1, hn2, hn3, hn4⟩ := HSP.out
          rcases take2_all HIN.out hs with htake | ⟨fi, fj, hi, hj, hij, htake⟩
          · clear hs hn1 hn2 hn3 hn4
            have HTAKE := Lib.hid htake
            clear htake
            go_wp2_with (go_at_call 6; (with_reducible refine HTAKE.out.mono ?_); rintro e w5 ⟨rfl, hn⟩; have HN5 := Lib.hid hn; clear hn)
            go_roundw
            case rel => exact ⟨k + 1, _, _, _, _, _, by omega, by go_num, HIN.out, HRW.out.keep HN5.out (fun _ _ h => h), HSP.out.keep0 HN5.out, hkl, by omega, by omega, HN5.out.lt hpw, HF.out.then0 HN5.out⟩
            case measure => simp [intOf]; omega
          · clear hs hn1 hn2 hn3 hn4
            as_aux_lemma =>
              have HTAKE := Lib.hid htake
              have NBI := Lib.hid (nobody HIN.out hi)
              have NBJ := Lib.hid (nobody HIN.out hj)
              have HIT := Lib.hid (HIN.out.take2 hi hj hij)
              have HLL : Hid (((st.set fi 2).set fj 2).length = 12) := Lib.hid HIT.out.len
              have HHL : Hid (held.length ≤ 12) := Lib.hid (by
                have e1 := HIN.out.count
                have e2 := countU_le st
                have e3 := HIN.out.len
                have e4 := hp_len held
                omega)
              have HBT : Hid (Try.prog.built 37 [(0, .int .i64 (sc fi : Int)), (1, .int .i64 (sc fj : Int))] = some (ptv (fi, some fj)).toArray) := Lib.hid (built2 _ _)
              have hz : ∀ W, (zeroValue 37).run Try.prog W = .ok (.agg PZ) W := zero_p
              clear htake hi hj hij
              obtain ⟨ha, hcp, hvh, -, -, -, -, -⟩ := HRW.out.h.form
              cases hvh
              obtain ⟨ga, gcp, hvg, -, -, -, -, -⟩ := HRW.out.g.form
              cases hvg
              obtain ⟨qa, qcp, hvq, -, -, -, -, -⟩ := HRW.out.q.form
              cases hvq
              go_wp2_with (first | (go_at_call 6; (with_reducible refine HTAKE.out.mono ?_); rintro e w5 ⟨rfl, hn⟩; have HN5 := Lib.hid hn; have HZ5 := Lib.hid (Bk.new w5 (.cells PZ 37)); clear hn) | ((with_reducible show wpList _ _ _ ({ dst := _, op := Op.build 37 _, type := _, pos := _, after := _, guard := _ } :: _) _ _); refine build_ev rfl 37 _ rfl [(0, .int .i64 (sc fi : Int)), (1, .int .i64 (sc fj : Int))] (by simp [Act.eval, Act.put]) (ptv (fi, some fj)).toArray HBT.out ?_) | ((with_reducible show wpList _ _ _ ({ dst := _, op := Op.store 37 _ _, type := _, pos := _, after := _, guard := _ } :: _) _ _); refine wpList_store_row rfl 37 _ _ rfl w5.heap.size (ptv (fi, some fj)).toArray rfl rfl 37 PZ HZ5.out (info_ptv _) (by rw [PZ_size, ptv_size]) (ptv_all _) ?_))
              have hft : Fr0 w5 ((w5.alloc (.cells PZ 37)).setRow w5.heap.size (ptv (fi, some fj)).toArray) := ArrKit.Fr.row (Fr.alloc (Fr.refl _ _) _) _ _ (.inl (Nat.le_refl _))
              have r0 := HRW.out.keep HN5.out.fr (fun i h e => by omega)
              have s0 := SpAt.now (st' := (st.set fi 2).set fj 2) (HRW.out) hpw HN5.out
              have HRT := Lib.hid (r0.keep hft (fun _ _ h => h))
              have HST := Lib.hid (s0.keep0 hft)
              have HFT : Hid (Fr0 w ((w5.alloc (.cells PZ 37)).setRow w5.heap.size (ptv (fi, some fj)).toArray)) := Lib.hid ((Fr.newG HF.out HN5.out.fr HBW.out).then0 hft)
              have HPT : Hid (p < (((w5.alloc (.cells PZ 37)).setRow w5.heap.size (ptv (fi, some fj)).toArray)).heap.size) := Lib.hid (hft.lt (HN5.out.fr.lt hpw))
              have HB13 : Hid (Bk ((w5.alloc (.cells PZ 37)).setRow w5.heap.size (ptv (fi, some fj)).toArray) w5.heap.size (ptv (fi, some fj)).toArray 37) := Lib.hid (ArrKit.Bk.row HZ5.out _)
              clear r0 s0 hft HTAKE HN5 HZ5 HIN HRW HSP HF c0 HBT
              generalize ((w5.alloc (.cells PZ 37)).setRow w5.heap.size (ptv (fi, some fj)).toArray) = wt at *
              generalize w5.heap.size = b13 at *
              have hhl2 : held.length ≤ 12 := HHL.out
              go_loopw [14] (fun jj W => ∃ j : Nat, j ≤ held.length ∧ jj = .int .i64 j ∧ Fr0 wt W) (fun jj _ => held.length - (intOf jj).toNat)
              case atStart => exact ⟨0, Nat.zero_le _, rfl, Fr.refl _ _⟩
              case round =>
                obtain ⟨m, hm, rfl, hFm⟩ := hrel
                have HFM := Lib.hid hFm
                clear hFm
                by_cases hml : m < held.length
                · have hRm := HRT.out.keep HFM.out (fun _ _ h => h)
                  obtain ⟨b2, o2, rfl, hat⟩ := RowP.at_ hRm.h hml
                  have HRG := Lib.hid (RowP.rg hRm.h hml)
                  obtain ⟨q1, q2, q3⟩ := NBI.out.1 _ (List.getElem_mem hml)
                  obtain ⟨r1, r2, r3⟩ := NBJ.out.1 _ (List.getElem_mem hml)
                  have P0 : Hid ((ptv held[m]).toArray[0]? = some (.int .i64 (sc held[m].1 : Int))) := Lib.hid rfl
                  have P1 : Hid ((ptv held[m]).toArray[1]? = some (.int .i64 (scO held[m].2))) := Lib.hid rfl
                  have d0 : ((wr.alloc (.cells PZ 37)).setRow wr.heap.size (ptv held[m]).toArray).cell? ⟨wr.heap.size, 0, none⟩ = some (.int .i64 (sc held[m].1 : Int)) := (Bk.cell (ArrKit.Bk.row (Bk.new wr (.cells PZ 37)) _) 0).trans P0.out
                  have d1 : ((wr.alloc (.cells PZ 37)).setRow wr.heap.size (ptv held[m]).toArray).cell? ⟨wr.heap.size, 1, none⟩ = some (.int .i64 (scO held[m].2)) := (Bk.cell (ArrKit.Bk.row (Bk.new wr (.cells PZ 37)) _) 1).trans P1.out
                  have HIX := Lib.hid (info_ptv held[m])
                  have HIY := Lib.hid (info_ptv2 held[m])
                  have HSZ := Lib.hid (PZ_size.trans (ptv_size held[m]).symm)
                  have HAL := Lib.hid (ptv_all held[m])
                  have HZR := Lib.hid (Bk.new wr (.cells PZ 37))
                  have HFX : Hid (Fr0 wr ((wr.alloc (.cells PZ 37)).setRow wr.heap.size (ptv held[m]).toArray)) := Lib.hid (ArrKit.Fr.row (Fr.alloc (Fr.refl _ _) _) _ _ (.inl (Nat.le_refl _)))
                  clear hRm hat P0 P1
                  generalize ptv held[m] = PV at *
                  generalize sc held[m].1 = qa at *
                  generalize scO held[m].2 = qb at *
                  go_wp2_with (first | ((with_reducible show wpList _ _ _ ({ dst := _, op := Op.load 37 _, type := _, pos := _, after := _, guard := _ } :: _) _ _); refine wpList_load_mid rfl 37 _ rfl b2 (o2 + m * 34) rfl PV _ HRG.out Try.underlying37 rfl HIY.out ?_) | ((with_reducible show wpList _ _ _ ({ dst := _, op := Op.store 37 _ _, type := _, pos := _, after := _, guard := _ } :: _) _ _); refine wpList_store_row rfl 37 _ _ rfl wr.heap.size PV.toArray rfl rfl 37 PZ HZR.out HIX.out HSZ.out HAL.out ?_))
                  go_roundw
                  case rel => exact ⟨m + 1, by omega, by go_num, HFM.out.then0 HFX.out⟩
                  case measure => simp [intOf]; omega
                · have HRT2 := Lib.hid (HRT.out.keep HFM.out (fun _ _ h => h))
                  have HST2 := Lib.hid (HST.out.keep0 HFM.out)
                  have HFT2 := Lib.hid (HFT.out.then0 HFM.out)
                  have HPT2 : Hid (p < wr.heap.size) := Lib.hid (HFM.out.lt HPT.out)
                  have HB2 := Lib.hid (HFM.out.keep HB13.out (fun h => h))
                  clear HRT HST HFT HPT HB13 HFM
                  have hgl2 : gone.length ≤ 3600 := by omega
                  have hql2 : going.length ≤ 600 := by omega
                  go_wp2
                  go_loop [16] (fun jj => ∃ j : Nat, j ≤ gone.length + going.length ∧ jj = .int .i64 j) (fun jj => gone.length + going.length - (intOf jj).toNat)
                  case atStart => exact ⟨0, Nat.zero_le _, rfl⟩
                  case round =>
                    obtain ⟨m2, hm2, rfl⟩ := hrel
                    by_cases hg2 : m2 < gone.length
                    · have hs2 : m2 < gone.length + going.length := by omega
                      obtain ⟨b3, o3, rfl, hat⟩ := RowN.at_ HRT2.out.g hg2
                      have cG := hat _ HRT2.out.g
                      obtain ⟨q1, q2⟩ := NBI.out.2.1 _ (List.getElem_mem hg2)
                      obtain ⟨r1, r2⟩ := NBJ.out.2.1 _ (List.getElem_mem hg2)
                      clear hat
                      generalize sc gone[m2] = qn at *
                      go_wp2
                      go_round
                      case rel => exact ⟨m2 + 1, by omega, by go_num⟩
                      case measure => simp [intOf]; omega
                    · by_cases hs2 : m2 < gone.length + going.length
                      · obtain ⟨m3, rfl⟩ : ∃ m3, m2 = gone.length + m3 := ⟨m2 - gone.length, by omega⟩
                        have hq3 : m3 < going.length := by omega
                        have hw3 : IntKind.i64.wrap (((gone.length + m3 : Nat) : Int) - (gone.length : Int)) = (m3 : Int) := by rw [show ((gone.length + m3 : Nat) : Int) - (gone.length : Int) = (m3 : Int) by omega, IntKind.wrap_i64]; omega
                        obtain ⟨b3, o3, rfl, hat⟩ := RowN.at_ HRT2.out.q hq3
                        have cG := hat _ HRT2.out.q
                        obtain ⟨q1, q2⟩ := NBI.out.2.2 _ (List.getElem_mem hq3)
                        obtain ⟨r1, r2⟩ := NBJ.out.2.2 _ (List.getElem_mem hq3)
                        clear hat
                        generalize sc going[m3] = qn at *
                        go_wp2
                        go_round
                        case rel => exact ⟨gone.length + m3 + 1, by omega, by go_num⟩
                        case measure => simp [intOf]; omega
                      · obtain ⟨i1, hy0, hz0, hz1, hz2⟩ := info_parts infoP
                        have HJ : Hid (Try.prog.info? 37 = some i1 ∧ i1.zero = some (.agg (PC 0 0 PtrAsk.Z).toArray) ∧ i1.size = 34 ∧ i1.bytes = 48) := Lib.hid ⟨hy0, hz0, hz1, hz2⟩
                        clear hy0 hz0 hz1 hz2
                        have HX34 := Lib.hid (ptv_size (fi, some fj))
                        go_wp2_with (first | ((with_reducible show wpList _ _ _ ({ dst := _, op := Op.load 37 _, type := _, pos := _, after := _, guard := _ } :: _) _ _); refine wpList_load_row_g (by rfl) 37 _ rfl b13 rfl 37 _ (0, 0) _ HB2.out Try.underlying37 rfl (info_ptv _) ?_) | ((with_reducible show wpList _ _ _ ({ dst := _, op := Op.buildSlice 30 1 _, type := _, pos := _, after := _, guard := _ } :: _) _ _); refine wpList_plain rfl fun K hK => ?_; refine GApp.wp_buildSlice_one 30 _ rfl 37 i1 _ 34 Try.underlying30 HJ.out.1 HJ.out.2.1 HJ.out.2.2.1 (by decide) (by decide) (ptv (fi, some fj)).toArray HX34.out rfl ?_; refine hK _ _ ?_) | (at_builtin; refine wpList_plain rfl fun K hK => ?_; obtain ⟨v6, w6, hr_, hr1, hs1, hp1, hf1, hb1, hn1⟩ := app_h HRT2.out HST2.out HLL.out HPT2.out (fi, some fj) (Nat.le_trans HHL.out (by decide)); refine GApp.wp_append_run (.tmp 170) (.tmp 172) 30 (by rfl) _ _ _ (by rfl) (by rfl) hr_ ?_; refine hK _ _ ?_; have HR6 := Lib.hid hr1; have HS6 := Lib.hid hs1; have HP6 := Lib.hid hp1; have HFF6 := Lib.hid hf1; have HB6 := Lib.hid hb1; have HNB6 := Lib.hid hn1; clear hr_ hr1 hs1 hp1 hf1 hb1 hn1))
                        have HRT := HR6
                        have HST := HS6
                        have HPT := HP6
                        have HFT := Lib.hid (HFF6.out _ HFT2.out HBW.out)
                        clear HR6 HS6 HP6 HFF6 HB6 HRT2 HST2 HFT2 HPT2 HB2 HJ HX34 HNB6
                        generalize held ++ [(fi, some fj)] = hdn at *
                        generalize (st.set fi 2).set fj 2 = stn at *
                        as_aux_lemma =>
                          have hn12 : (hp hdn).length ≤ 12 := by
                            have e1 := HIT.out.count
                            have e2 := countU_le (stn)
                            have e3 := HIT.out.len
                            omega
                          obtain ⟨ha, hcp, hvh, hle, hmx, hrd, -, -⟩ := HRT.out.h.form
                          cases hvh
                          have HRDH := Lib.hid hrd
                          have hhl : hdn.length ≤ 12 := by
                            have : ∀ h : List (Nat × Option Nat), h.length ≤ (hp h).length := fun h => by
                              induction h with
                              | nil => exact Nat.le_refl _
                              | cons a r ih => rw [hp_cons, List.length_append, List.length_cons]; have : 1 ≤ (pl a).length := by simp [pl]
                                               omega
                            have := this hdn
                            omega
                          clear hrd
                          go_loop [22, 23] (fun nn jj => ∃ j : Nat, j ≤ hdn.length ∧ jj = .int .i64 j ∧ nn = .int .i64 ((hp (hdn.take j)).length : Int)) (fun _ jj => hdn.length - (intOf jj).toNat)
                          case atStart => exact ⟨0, Nat.zero_le _, rfl, rfl⟩
                          case round =>
                            obtain ⟨j, hj, rfl, rfl⟩ := hrel
                            have hnj : (hp (hdn.take j)).length ≤ 12 := by
                              have e : hp hdn = hp (hdn.take j) ++ hp (hdn.drop j) := by rw [← hp_append, List.take_append_drop]
                              rw [e, List.length_append] at hn12
                              omega
                            by_cases hjl : j < hdn.length
                            · obtain ⟨b2, o2, rfl, hcell⟩ := HRDH.out j hjl
                              have cB : w6.cell? ⟨b2, o2 + j * 34 + 1, none⟩ = some (.int .i64 (scO hdn[j].2)) := hcell 1 _ rfl
                              have HTK : Hid (hp (hdn.take (j + 1)) = hp (hdn.take j) ++ pl hdn[j]) := Lib.hid (by rw [List.take_succ_eq_append_getElem hjl, hp_append, hp_one])
                              generalize hdn[j] = pj at *
                              obtain ⟨i1, oj⟩ := pj
                              generalize (hp (hdn.take j)) = hpj at *
                              clear hcell HRDH
                              cases oj with
                              | none =>
                                simp only [scO] at cB
                                go_wp2
                                go_round
                                case rel => exact ⟨j + 1, by omega, by go_num, by rw [HTK.out, List.length_append]; show _ = Value.int .i64 ((hpj.length + 1 : Nat) : Int); go_num⟩
                                case measure => simp [intOf]; omega
                              | some j1 =>
                                simp only [scO] at cB
                                generalize sc j1 = q1 at *
                                go_wp2
                                go_round
                                case rel => exact ⟨j + 1, by omega, by go_num, by rw [HTK.out, List.length_append]; show _ = Value.int .i64 ((hpj.length + 2 : Nat) : Int); go_num⟩
                                case measure => simp [intOf]; omega
                            · have hje : hdn.take j = hdn := List.take_of_length_le (by omega)
                              rw [hje] at hnj ⊢
                              obtain ⟨g, c, hs, -⟩ := HST.out
                              have HUS : Hid (Calls Try.prog 10 #[.agg (sval (spS (stn)) g 0 c)] w6 fun e w' => e = .returned (.int .i64 ((hp hdn).length : Int)) ∧ Fr0 w6 w') := Lib.hid (by
                                have := Used_calls (spS (stn)) g 0 c w6 (spS_ok HIT.out.len HIT.out.low) hs.rd
                                rw [show countU (spS (stn)).st = (hp hdn).length from HIT.out.count] at this
                                exact this)
                              have HBP := Lib.hid hs.blk
                              have HIS : Hid ((Try.prog.info? 26).map (·.size) = some (sval (spS (stn)) g 0 c).size) := Lib.hid (by kernel_rfl)
                              generalize sval (spS (stn)) g 0 c = SVT at *
                              generalize (hp hdn).length = hn at *
                              clear hs
                              go_wp2_with (first | ((with_reducible show wpList _ _ _ ({ dst := _, op := Op.load 26 _, type := _, pos := _, after := _, guard := _ } :: _) _ _); refine wpList_load_row_g (by rfl) 26 _ rfl p rfl 26 _ (0, 0) _ HBP.out Try.underlying26 rfl HIS.out ?_) | (go_at_call 10; (with_reducible refine HUS.out.mono ?_); rintro e w8 ⟨rfl, hf8⟩; have HF8 := Lib.hid hf8; clear hf8))
                              go_roundw
                              case rel => exact ⟨k + 1, _, _, _, _, _, by omega, by go_num, HIT.out, HRT.out.keep HF8.out (fun _ _ h => h), HST.out.keep0 HF8.out, hkl, by omega, by omega, HF8.out.lt HPT.out, HFT.out.then0 HF8.out⟩
                              case measure => simp [intOf]; omega
    · clear hI hR hS
      have HF := Lib.hid hF
      clear hF
      go_wp2
      go_ret
      exact ⟨rfl, HF.out⟩

end Go.Proofs.Ytpbhnpoldjdfdaa.NeverLaw
