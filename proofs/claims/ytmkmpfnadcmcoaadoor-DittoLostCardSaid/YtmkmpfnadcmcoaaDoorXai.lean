/- The theorems that the claim uses, text behind text (part 9). -/
import Derived.Test.YtmkmpfnadcmcoaaDoorXad
import Derived.Test.YtmkmpfnadcmcoaaDoorXae
import Derived.Test.YtmkmpfnadcmcoaaDoorXah
set_option maxRecDepth 100000
set_option linter.unusedVariables false
set_option linter.unusedSimpArgs false
namespace Go.Proofs.YtmkmpfnadcmcoaaDoor.ShaRSum
open Go Go.RowKit Go.Proofs.YtmkmpfnadcmcoaaDoor.K Go.Proofs.YtmkmpfnadcmcoaaDoor.ShaRot Go.Proofs.YtmkmpfnadcmcoaaDoor.ArrKit Go.Proofs.YtmkmpfnadcmcoaaDoor.ShaSpread Go.Proofs.YtmkmpfnadcmcoaaDoor.ShaStep Go.Proofs.YtmkmpfnadcmcoaaDoor.ShaRef Go.Proofs.YtmkmpfnadcmcoaaDoor.RefCopy Go.Proofs.YtmkmpfnadcmcoaaDoor.ShaPad Go.Proofs.YtmkmpfnadcmcoaaDoor.ShaSum
def Z64 : Array Value := #[.int .u8 0, .int .u8 0, .int .u8 0, .int .u8 0, .int .u8 0, .int .u8 0, .int .u8 0, .int .u8 0, .int .u8 0, .int .u8 0, .int .u8 0, .int .u8 0, .int .u8 0, .int .u8 0, .int .u8 0, .int .u8 0, .int .u8 0, .int .u8 0, .int .u8 0, .int .u8 0, .int .u8 0, .int .u8 0, .int .u8 0, .int .u8 0, .int .u8 0, .int .u8 0, .int .u8 0, .int .u8 0, .int .u8 0, .int .u8 0, .int .u8 0, .int .u8 0, .int .u8 0, .int .u8 0, .int .u8 0, .int .u8 0, .int .u8 0, .int .u8 0, .int .u8 0, .int .u8 0, .int .u8 0, .int .u8 0, .int .u8 0, .int .u8 0, .int .u8 0, .int .u8 0, .int .u8 0, .int .u8 0, .int .u8 0, .int .u8 0, .int .u8 0, .int .u8 0, .int .u8 0, .int .u8 0, .int .u8 0, .int .u8 0, .int .u8 0, .int .u8 0, .int .u8 0, .int .u8 0, .int .u8 0, .int .u8 0, .int .u8 0, .int .u8 0]
set_option maxHeartbeats 2000000 in
set_option maxRecDepth 100000 in
theorem rsum_calls (a : Option Addr) (n c : Nat) (l : List UInt8) (w : World) (hl : l.length = n) (hrd : Rd w a l) (hn : n ≤ 140737488351232) :
    Calls Tryd.prog 10 #[.slice a n c] w fun e w' => e = .returned (.agg ((sumOf l).map B).toArray) ∧ Fr0 w w' := by
  have HL := Lib.hid hl
  have GF : Hid (Fr0 w (w.alloc (.cells Z32 35))) := Lib.hid (Fr.alloc (Fr.refl _ _) _)
  have GR : Hid (Bk (w.alloc (.cells Z32 35)) w.heap.size Z32 35) := Lib.hid (Bk.new w _)
  have GL := Lib.hid (hrd.later GF.out (fun _ _ h => h))
  clear hl hrd
  go_enter Tryd.func10, Tryd.ntmps10
  go_wp2_with (first | (go_at_call 25; change Calls _ _ _ (w.alloc (.cells Z32 35)) _; (with_reducible refine (rpad_calls a n c l _ HL.out GL.out hn).mono ?_); rintro e w3 ⟨g, cap, cur, rfl, hge, hown, hfr⟩; have HO := Lib.hid hown; have HF := Lib.hid hfr; have HGE := Lib.hid hge; clear hown hfr hge) | (go_at_call 26; (with_reducible refine (first_calls _).mono ?_); rintro e w4 ⟨rfl, hf4⟩; have HF4 := Lib.hid hf4; have HN5 : Hid (Bk (w4.alloc (.cells Z8 75)) w4.heap.size Z8 75) := Lib.hid (Bk.new _ _); clear hf4) | (refine wpList_store_row rfl 75 _ _ rfl w4.heap.size HB8 rfl rfl 75 Z8 HN5.out (by kernel_rfl) rfl (by kernel_rfl) ?_; change wpList _ _ _ _ _ ((w4.alloc (.cells Z8 75)).setRow w4.heap.size HB8)))
  have hg4 : w.heap.size < g ∧ g < w4.heap.size := by
    have h1 := HGE.out
    have h2 := Bk.lt (HF4.out.keep HO.out.blk (fun h => h))
    simp at h1
    omega
  have HG4 := Lib.hid hg4
  have hold : ∀ k o, w3.heap[k]? = some o → ((w4.alloc (.cells Z8 75)).setRow w4.heap.size HB8).heap[k]? = some o := fun k o h => ArrKit.Bk.rowOther (Bk.alloc (HF4.out.keep h (fun h => h)) _) _ (by have := Bk.lt (HF4.out.keep h (fun h => h)); omega)
  have KH : Hid (Bk ((w4.alloc (.cells Z8 75)).setRow w4.heap.size HB8) w4.heap.size HB8 75) := Lib.hid (ArrKit.Bk.row HN5.out _)
  have KR : Hid (Bk ((w4.alloc (.cells Z8 75)).setRow w4.heap.size HB8) w.heap.size Z32 35) := Lib.hid (hold _ _ (HF.out.keep GR.out (fun h => h)))
  have KO : Hid (Own ((w4.alloc (.cells Z8 75)).setRow w4.heap.size HB8) g (padOf l).length cap cur (padOf l)) := Lib.hid ⟨hold _ _ HO.out.blk, HO.out.len, HO.out.room, HO.out.size, HO.out.cap, HO.out.here⟩
  have KF : Hid (Fr0 w ((w4.alloc (.cells Z8 75)).setRow w4.heap.size HB8)) := Lib.hid (ArrKit.Fr.row (Fr.alloc ((GF.out.then0 HF.out).then0 HF4.out) _) _ _ (.inl (by omega)))
  clear hold hg4 HN5 HF4 HF HO HGE GL GR GF
  generalize (w4.alloc (.cells Z8 75)).setRow w4.heap.size HB8 = w5 at *
  generalize w4.heap.size = H at *
  have HTc : Hid ((padOf l).length ≤ cap ∧ cap ≤ 9223372036854775807) := Lib.hid ⟨KO.out.room, KO.out.cap⟩
  generalize hp : padOf l = p at *
  generalize hT : p.length = T at *
  have HP := Lib.hid hp
  have HT := Lib.hid hT
  have h64 : T % 64 = 0 := by
    rw [← hT, ← hp, padOf_length, zs]; omega
  have hTm : T ≤ 140737488351400 := by
    have := HL.out
    rw [← hT, ← hp, padOf_length, zs]; omega
  clear hp hT
  go_loopw [5] (fun v wr => ∃ i : Nat, 64 * i ≤ T ∧ v = .int .i64 (64 * i : Nat) ∧ Bk wr H ((run p i).list.map U).toArray 75 ∧ Bk wr w.heap.size Z32 35 ∧ Own wr g T cap cur p ∧ Fr0 w wr) (fun v _ => T - (intOf v).toNat)
  case atStart => exact ⟨0, by omega, rfl, KH.out, KR.out, KO.out, KF.out⟩
  case round =>
    obtain ⟨i, hi, rfl, hbh, hbr, hown, hfr⟩ := hrel
    have LH := Lib.hid hbh
    have LR := Lib.hid hbr
    have LO := Lib.hid hown
    have LF := Lib.hid hfr
    have HI := Lib.hid hi
    clear hbh hbr hown hfr KH KR KO KF
    have HTC := HTc.out
    by_cases hlt : 64 * i < T
    rotate_left
    · obtain ⟨t, ht⟩ : ∃ t, 64 * i = t := ⟨_, rfl⟩
      rw [ht]
      have cz : decide (t < T) = false := decide_eq_false (by omega)
      have e64 : T / 64 = i := by omega
      have HSO : Hid (sumOf l = (List.range 32).map fun j => UInt8.ofNat (at0 (run p i).list (j / 4) / 2 ^ (24 - 8 * (j % 4)))) := Lib.hid (by rw [sumOf, HP.out, HT.out, e64])
      clear ht hi HTC e64 hlt
      have LRO := run_ok p i
      generalize run p i = r at *
      have HR8 : Hid (∀ k, k < 8 → (r.list.map U).toArray[k]? = some (.int .u32 (at0 r.list k : Nat))) := Lib.hid (fun k hk => list_cell r k hk)
      have HRL : Hid (∀ k, at0 r.list k < 4294967296) := Lib.hid (fun k => S8.at_lt LRO k)
      clear LRO
      generalize (r.list.map U).toArray = hc at *
      generalize r.list = rl at *
      go_wp2_with fail
      change Code.wp _ _ _ _ (wr.alloc (.cells Z32 35))
      have BH : Hid (Bk (wr.alloc (.cells Z32 35)) H hc 75) := Lib.hid (Bk.alloc LH.out _)
      have BS : Hid (Bk (wr.alloc (.cells Z32 35)) wr.heap.size Z32 35) := Lib.hid (Bk.new wr _)
      have BR : Hid (Bk (wr.alloc (.cells Z32 35)) w.heap.size Z32 35) := Lib.hid (Bk.alloc LR.out _)
      have BF : Hid (Fr0 w (wr.alloc (.cells Z32 35))) := Lib.hid (Fr.alloc LF.out _)
      have BL : Hid (w.heap.size < wr.heap.size ∧ H < wr.heap.size) := Lib.hid ⟨Bk.lt LR.out, Bk.lt LH.out⟩
      clear LH LR LO LF
      generalize hSS : wr.heap.size = SS at *
      clear hSS
      generalize wr.alloc (.cells Z32 35) = w6 at *
      go_loopw [9] (fun i wq => ∃ k : Nat, k ≤ 32 ∧ i = .int .i64 k ∧ Bk wq SS (lay Z32 0 (((sumOf l).map B).take k)) 35 ∧ Bk wq w.heap.size Z32 35 ∧ Bk wq H hc 75 ∧ Fr0 w wq) (fun i _ => 32 - (intOf i).toNat)
      case atStart => exact ⟨0, by omega, rfl, BS.out, BR.out, BH.out, BF.out⟩
      case round =>
        obtain ⟨k, hk, rfl, hbs, hbr, hbh, hfr⟩ := hrel
        have CS := Lib.hid hbs
        have CR := Lib.hid hbr
        have CH := Lib.hid hbh
        have CF := Lib.hid hfr
        clear hbs hbr hfr hbh BS BR BF BH
        by_cases hlt8 : k < 32
        rotate_left
        · have cz2 : decide ((k : Int) < 32) = false := decide_eq_false (by omega)
          have hlen : ((sumOf l).map B).length = 32 := by simp [sumOf_length]
          have LX : Hid (Bk wr SS ((sumOf l).map B).toArray 35) := Lib.hid (by
            have e : k = 32 := by omega
            subst e
            have := CS.out
            rwa [List.take_of_length_le (by rw [hlen]; exact Nat.le_refl _), lay_full _ _ (by rw [hlen]; rfl)] at this)
          have HI1 : Hid ((Tryd.prog.info? 35).map (·.size) = some (((sumOf l).map B).toArray.size)) := Lib.hid (by rw [info32a, List.size_toArray, hlen])
          have HI2 : Hid (Z32.size = ((sumOf l).map B).toArray.size) := Lib.hid (by rw [show (((sumOf l).map B).toArray).size = 32 by simp [sumOf_length]]; rfl)
          have HI3 : Hid (((sumOf l).map B).toArray.all (·.oneCell') = true) := Lib.hid (by simp [B, Value.oneCell'])
          clear CS hlen
          go_wp2_with (first | (refine wpList_load_row rfl 35 _ rfl SS rfl 35 ((sumOf l).map B).toArray (0, 0) _ LX.out Tryd.underlying35 rfl HI1.out ?_) | (refine wpList_store_row rfl 35 _ _ rfl w.heap.size ((sumOf l).map B).toArray rfl rfl 35 Z32 CR.out HI1.out HI2.out HI3.out ?_))
          refine fin_c w.heap.size 35 ((sumOf l).map B).toArray (by rfl) (by rfl) (by rfl) Tryd.underlying35 (by rfl) HI1.out (ArrKit.Bk.row CR.out _) ?_
          exact ⟨rfl, ArrKit.Fr.row CF.out _ _ (.inl (by omega))⟩
        · have cz2 : decide ((k : Int) < 32) = true := decide_eq_true (by omega)
          obtain ⟨q, hq⟩ : ∃ q, k / 4 = q := ⟨_, rfl⟩
          obtain ⟨e, he⟩ : ∃ e, 24 - 8 * (k % 4) = e := ⟨_, rfl⟩
          have y1 : (k : Int) / 4 = (q : Int) := by omega
          have y2 : 24 - 8 * ((k : Int) % 4) = (e : Int) := by omega
          have y3 : e < 32 := by omega
          have y4 : q < 8 := by omega
          have hcl : wr.cell? ⟨H, q, none⟩ = some (.int .u32 (at0 rl q : Nat)) := (CH.out.cell q).trans (HR8.out q y4)
          have HV : Hid ((sumOf l)[k]? = some (UInt8.ofNat (at0 rl q / 2 ^ e))) := Lib.hid (by
            rw [HSO.out, List.getElem?_map, List.getElem?_range hlt8, Option.map_some, hq, he])
          have hxl := HRL.out q
          generalize at0 rl q = x at *
          obtain ⟨o0, q0⟩ : ∃ v, wr.cell? ⟨SS, k, none⟩ = some v := ⟨_, (CS.out.cell k).trans (Array.getElem?_eq_getElem (by rw [lay_size]; exact hlt8))⟩
          have z0 := CS.out.free k
          clear hq he
          go_wp2_with fail
          have hb := BL.out
          refine ⟨⟨k + 1, by omega, by go_num, ?_, Bk.setOther CR.out _ _ (by simp; omega), Bk.setOther CH.out _ _ (by simp; omega), CF.out.set _ _ (.inl (by simp; omega))⟩, by simp [intOf]; omega⟩
          rw [lay_next k (by simp [sumOf_length]; omega) (.int .u8 ((x : Int) / 2 ^ e % 256)) (bval HV.out _ (by norm_cast))]
          exact Bk.set CS.out _ _
    · obtain ⟨t, ht⟩ : ∃ t, 64 * i = t := ⟨_, rfl⟩
      have HTT := Lib.hid ht
      rw [ht]
      have cz : decide (t < T) = true := decide_eq_true (by omega)
      have HLT := Lib.hid hlt
      clear hi ht hlt
      go_wp2_with fail
      change Code.wp _ _ _ _ (wr.alloc (.cells Z64 77))
      have BB : Hid (Bk (wr.alloc (.cells Z64 77)) wr.heap.size Z64 77) := Lib.hid (Bk.new wr _)
      have BH : Hid (Bk (wr.alloc (.cells Z64 77)) H ((run p i).list.map U).toArray 75) := Lib.hid (Bk.alloc LH.out _)
      have BR : Hid (Bk (wr.alloc (.cells Z64 77)) w.heap.size Z32 35) := Lib.hid (Bk.alloc LR.out _)
      have BO : Hid (Own (wr.alloc (.cells Z64 77)) g T cap cur p) := Lib.hid ⟨Bk.alloc LO.out.blk _, LO.out.len, LO.out.room, LO.out.size, LO.out.cap, LO.out.here⟩
      have BF : Hid (Fr0 w (wr.alloc (.cells Z64 77))) := Lib.hid (Fr.alloc LF.out _)
      have BL : Hid (w.heap.size < wr.heap.size ∧ H < wr.heap.size ∧ g < wr.heap.size) := Lib.hid ⟨Bk.lt LR.out, Bk.lt LH.out, Bk.lt LO.out.blk⟩
      have HBL : Hid ((blockAt p i).length = 64) := Lib.hid (by have h1 := HT.out; have h2 := HTT.out; have h3 := HLT.out; rw [blockAt, List.length_take, List.length_drop]; omega)
      clear LH LR LO LF
      generalize hSS : wr.heap.size = SS at *
      clear hSS
      generalize wr.alloc (.cells Z64 77) = w6 at *
      go_loopw [7] (fun v wq => ∃ k : Nat, k ≤ 64 ∧ v = .int .i64 k ∧ Bk wq SS (lay Z64 0 (((blockAt p i).map B).take k)) 77 ∧ Bk wq H ((run p i).list.map U).toArray 75 ∧ Bk wq w.heap.size Z32 35 ∧ Own wq g T cap cur p ∧ Fr0 w wq) (fun v _ => 64 - (intOf v).toNat)
      case atStart => exact ⟨0, by omega, rfl, BB.out, BH.out, BR.out, BO.out, BF.out⟩
      case round =>
        obtain ⟨k, hk, rfl, hbb, hbh, hbr, hbo, hfr⟩ := hrel
        have CB := Lib.hid hbb
        have CH := Lib.hid hbh
        have CR := Lib.hid hbr
        have CO := Lib.hid hbo
        have CF := Lib.hid hfr
        clear hbb hbh hbr hbo hfr BB BH BR BO BF
        by_cases hlt8 : k < 64
        rotate_left
        · have cz2 : decide ((k : Int) < 64) = false := decide_eq_false (by omega)
          have LX : Hid (Bk wr SS ((blockAt p i).map B).toArray 77) := Lib.hid (by
            have e : k = 64 := by omega
            subst e
            have hlen : ((blockAt p i).map B).length = 64 := by rw [List.length_map, HBL.out]
            have := CB.out
            rw [List.take_of_length_le (by rw [hlen]; exact Nat.le_refl _), lay_full _ _ (by rw [hlen]; rfl)] at this
            exact this)
          have MH : Hid (Bk wr H ((run p i).list.map U).toArray 75) := Lib.hid CH.out
          have MR : Hid (Bk wr w.heap.size Z32 35) := Lib.hid CR.out
          have MO : Hid (Own wr g T cap cur p) := Lib.hid CO.out
          have MF : Hid (Fr0 w wr) := Lib.hid CF.out
          have HIB : Hid ((Tryd.prog.info? 77).map (·.size) = some (((blockAt p i).map B).toArray.size)) := Lib.hid (by rw [List.size_toArray, List.length_map, HBL.out]; kernel_rfl)
          have HRS : Hid ((Tryd.prog.info? 75).map (·.size) = some ((run p i).list.map U).toArray.size) := Lib.hid (by rw [info8a]; simp [S8.list])
          clear CB CH CR CO CF
          have htT : t < T := by have h1 := HTT.out; have h2 := HLT.out; omega
          go_wp2_with (first | (refine wpList_load_row rfl 75 _ rfl H rfl 75 ((run p i).list.map U).toArray (0, 0) _ MH.out Tryd.underlying75 rfl HRS.out ?_) | (refine wpList_load_row rfl 77 _ rfl SS rfl 77 ((blockAt p i).map B).toArray (0, 0) _ LX.out Tryd.underlying77 rfl HIB.out ?_) | (go_at_call 27; (with_reducible refine (rstep_calls (run p i) (run_ok p i) (blockAt p i) _ HBL.out).mono ?_); rintro e w7 ⟨rfl, hf7⟩; have HF7 := Lib.hid hf7; have HH7 := Lib.hid (hf7.keep MH.out (fun h => h)); clear hf7) | (refine wpList_store_row rfl 75 _ _ rfl H ((stepOf (run p i) (blockAt p i)).list.map U).toArray rfl rfl 75 _ HH7.out (by simp only [List.size_toArray, List.length_map]; exact info8a) (by simp [S8.list]) (by simp [U, S8.list, Value.oneCell']) ?_))
          have hm := HTT.out
          have hlT := HLT.out
          have h6 := h64
          have hG := HG4.out
          have hb := BL.out
          refine ⟨⟨i + 1, by omega, congrArg (Value.int .i64) (by omega), ArrKit.Bk.row HH7.out _, ArrKit.Bk.rowOther (HF7.out.keep MR.out (fun h => h)) _ (by omega), ⟨ArrKit.Bk.rowOther (HF7.out.keep MO.out.blk (fun h => h)) _ (by omega), MO.out.len, MO.out.room, MO.out.size, MO.out.cap, MO.out.here⟩, ArrKit.Fr.row (MF.out.then0 HF7.out) _ _ (.inl (by omega))⟩, by simp [intOf]; omega⟩
        · have cz2 : decide ((k : Int) < 64) = true := decide_eq_true (by omega)
          have hTl : t + k < T := by have h1 := HTT.out; have h2 := HLT.out; omega
          have hob := CO.out.here (t + k) (by rw [CO.out.len]; exact hTl)
          have hpc : wr.cell? ⟨g, t + k, none⟩ = some (B (p[t + k]'(by rw [CO.out.len]; exact hTl))) := (CO.out.blk.cell (t + k)).trans hob
          have HV : Hid (∀ h : k < ((blockAt p i).map B).length, ((blockAt p i).map B)[k] = B (p[t + k]'(by rw [CO.out.len]; exact hTl))) := Lib.hid (fun h => by
            have h1 := HTT.out
            simp [blockAt, ← h1])
          clear hob
          obtain ⟨bv, hbv⟩ : ∃ bv, (p[t + k]'(by rw [CO.out.len]; exact hTl)).toNat = bv := ⟨_, rfl⟩
          have HBV : Hid (B (p[t + k]'(by rw [CO.out.len]; exact hTl)) = .int .u8 (bv : Int)) := Lib.hid (by rw [B_def, hbv])
          rw [HBV.out] at hpc
          have HV2 : Hid (∀ h : k < ((blockAt p i).map B).length, ((blockAt p i).map B)[k] = .int .u8 (bv : Int)) := Lib.hid (fun h => (HV.out h).trans HBV.out)
          clear hbv HBV HV
          obtain ⟨o0, q0⟩ : ∃ v, wr.cell? ⟨SS, k, none⟩ = some v := ⟨_, (CB.out.cell k).trans (Array.getElem?_eq_getElem (by rw [lay_size]; exact hlt8))⟩
          have z0 := CB.out.free k
          obtain ⟨tk, htk⟩ : ∃ tk, t + k = tk := ⟨_, rfl⟩
          have e1 : (t : Int) + k = (tk : Int) := by omega
          rw [htk] at hpc hTl
          have hT9 : tk ≤ 9223372036854775807 := by omega
          clear htk
          go_wp2_with fail
          have hb := BL.out
          refine ⟨⟨k + 1, by omega, by go_num, ?_, Bk.setOther CH.out _ _ (by simp; omega), Bk.setOther CR.out _ _ (by simp; omega), ⟨Bk.setOther CO.out.blk _ _ (by simp; omega), CO.out.len, CO.out.room, CO.out.size, CO.out.cap, CO.out.here⟩, CF.out.set _ _ (.inl (by simp; omega))⟩, by simp [intOf]; omega⟩
          rw [lay_next k (by rw [List.length_map, HBL.out]; exact hlt8) (.int .u8 (bv : Int)) (HV2.out _)]
          exact Bk.set CB.out _ _

end Go.Proofs.YtmkmpfnadcmcoaaDoor.ShaRSum
namespace Go.Proofs.YtmkmpfnadcmcoaaDoor.RmTab
open Go Go.RowKit Go.Proofs.YtmkmpfnadcmcoaaDoor.K Go.Proofs.YtmkmpfnadcmcoaaDoor.EqKit Go.Proofs.YtmkmpfnadcmcoaaDoor.ArrKit Go.Proofs.YtmkmpfnadcmcoaaDoor.HeldKit Go.Proofs.YtmkmpfnadcmcoaaDoor.GKit Go.Proofs.YtmkmpfnadcmcoaaDoor.GRow Go.Proofs.YtmkmpfnadcmcoaaDoor.DiskKit Go.Proofs.YtmkmpfnadcmcoaaDoor.RmKit Go.Proofs.YtmkmpfnadcmcoaaDoor.MapKit Go.Proofs.YtmkmpfnadcmcoaaDoor.RmRight Go.Proofs.YtmkmpfnadcmcoaaDoor.DiskRRead Go.Proofs.YtmkmpfnadcmcoaaDoor.ShaRot Go.Proofs.YtmkmpfnadcmcoaaDoor.ShaSpread Go.Proofs.YtmkmpfnadcmcoaaDoor.ShaStep Go.Proofs.YtmkmpfnadcmcoaaDoor.ShaPlain Go.Proofs.YtmkmpfnadcmcoaaDoor.ShaRef Go.Proofs.YtmkmpfnadcmcoaaDoor.WordPut Go.Proofs.YtmkmpfnadcmcoaaDoor.ShaSum
def spl (l : List UInt8) (p : Nat) (m : List UInt8) : List UInt8 := l.take p ++ (m ++ l.drop (p + m.length))
theorem lay_spl (l m : List UInt8) (p : Nat) (h : p + m.length ≤ l.length) : lay (l.map B).toArray p (m.map B) = ((spl l p m).map B).toArray := by
  apply Array.ext_getElem?
  intro i
  rw [lay_get, List.length_map, List.size_toArray, List.length_map, List.getElem?_toArray, List.getElem?_toArray, List.getElem?_map, List.getElem?_map, List.getElem?_map, spl, List.getElem?_append, List.length_take, Nat.min_eq_left (by omega)]
  by_cases h1 : i < p
  · rw [if_neg (by omega), if_pos h1, List.getElem?_take, if_pos h1]
  · rw [if_neg h1, List.getElem?_append]
    by_cases h2 : i - p < m.length
    · rw [if_pos (by omega), if_pos h2]
    · rw [if_neg (by omega), if_neg h2, List.getElem?_drop, show p + m.length + (i - p - m.length) = i by omega]
theorem spl_end (A Z m : List UInt8) {p : Nat} (hp : A.length = p) : spl (A ++ Z) p m = A ++ m ++ Z.drop m.length := by
  subst hp
  simp [spl, List.append_assoc]
/-- a pair's bytes -/
def pb (p : Int × Int) : List UInt8 := le p.1.toNat 2 ++ le p.2.toNat 2
theorem pb_len (p : Int × Int) : (pb p).length = 4 := by simp [pb]
def hd0 (m : Rm) : List UInt8 := [109] ++ le m.gen.toNat 8 ++ [UInt8.ofNat m.ps.length]
theorem hd0_len (m : Rm) : (hd0 m).length = 10 := by simp [hd0]
def pre (m : Rm) (i : Nat) : List UInt8 := hd0 m ++ (m.ps.take i).flatMap pb
theorem flat_pb : ∀ l : List (Int × Int), (l.flatMap pb).length = 4 * l.length := fun l => by
  induction l with
  | nil => rfl
  | cons a r ih => rw [List.flatMap_cons, List.length_append, ih, pb_len, List.length_cons]; omega
theorem pre_len (m : Rm) {i : Nat} (h : i ≤ m.ps.length) : (pre m i).length = 10 + 4 * i := by
  rw [pre, List.length_append, hd0_len, flat_pb, List.length_take, Nat.min_eq_left h]
theorem pre_succ (m : Rm) {i : Nat} (h : i < m.ps.length) : pre m (i + 1) = pre m i ++ (le m.ps[i].1.toNat 2 ++ le m.ps[i].2.toNat 2) := by
  rw [pre, pre, List.take_succ_eq_append_getElem h, List.flatMap_append, List.append_assoc]
  congr 1
def bodyB (m : Rm) (i : Nat) : List UInt8 := pre m i ++ List.replicate (118 - 4 * i) 0
theorem bodyB_len (m : Rm) {i : Nat} (h : i ≤ m.ps.length) (h2 : m.ps.length ≤ 20) : (bodyB m i).length = 128 := by
  rw [bodyB, List.length_append, pre_len m h, List.length_replicate]; omega
/-- a pair half laid -/
def halfB (m : Rm) (i : Nat) (f : Int) : List UInt8 := pre m i ++ le f.toNat 2 ++ List.replicate (116 - 4 * i) 0
theorem halfB_len (m : Rm) {i : Nat} (f : Int) (h : i ≤ m.ps.length) (h2 : m.ps.length ≤ 20) : (halfB m i f).length = 128 := by
  rw [halfB, List.length_append, List.length_append, pre_len m h, List.length_replicate, le_length]; omega
theorem step1 (m : Rm) {i : Nat} (f : Int) (h : i ≤ m.ps.length) : spl (bodyB m i) (10 + 4 * i) (le f.toNat 2) = halfB m i f := by
  rw [bodyB, spl_end _ _ _ (pre_len m h), halfB, le_length, List.drop_replicate]
  congr 2
  omega
theorem step2 (m : Rm) {i : Nat} (h : i < m.ps.length) : spl (halfB m i m.ps[i].1) (12 + 4 * i) (le m.ps[i].2.toNat 2) = bodyB m (i + 1) := by
  rw [halfB, spl_end _ _ _ (by rw [List.length_append, pre_len m (Nat.le_of_lt h), le_length]; omega), bodyB, pre_succ m h, le_length, List.drop_replicate, List.append_assoc (pre m i)]
  congr 2
  omega
def L0 : List UInt8 := [109] ++ List.replicate 127 0
def L1 (m : Rm) : List UInt8 := [109] ++ le m.gen.toNat 8 ++ List.replicate 119 0
theorem L0_len : L0.length = 128 := by simp [L0]
theorem L1_len (m : Rm) : (L1 m).length = 128 := by simp [L1]
theorem stepGen (m : Rm) : spl L0 1 (le m.gen.toNat 8) = L1 m := by
  rw [L0, spl_end [109] _ _ (p := 1) rfl, L1, le_length, List.drop_replicate]
theorem stepLen (m : Rm) : spl (L1 m) 9 [UInt8.ofNat m.ps.length] = bodyB m 0 := by
  rw [L1, spl_end _ _ _ (by simp), bodyB, pre, hd0]
  simp
def headB (m : Rm) : List UInt8 := (bodyB m m.ps.length).take 96
theorem headB_len (m : Rm) (h2 : m.ps.length ≤ 20) : (headB m).length = 96 := by
  rw [headB, List.length_take, bodyB_len m (Nat.le_refl _) h2]; rfl
/-- a table's bytes -/
def tabL (m : Rm) : List UInt8 := headB m ++ sumOf (headB m)
theorem tabL_len (m : Rm) (h2 : m.ps.length ≤ 20) : (tabL m).length = 128 := by
  rw [tabL, List.length_append, headB_len m h2, sumOf_length]
theorem step_sum (m : Rm) (h2 : m.ps.length ≤ 20) : spl (bodyB m m.ps.length) 96 (sumOf (headB m)) = tabL m := by
  rw [spl, sumOf_length, List.drop_eq_nil_of_le (by rw [bodyB_len m (Nat.le_refl _) h2]; omega), List.append_nil]; rfl
def tabX (m : Rm) (s : Int) : List UInt8 := if tabB m s = true then tabL m else Z128
def tabE (m : Rm) (s : Int) : Int := if tabB m s = true then 0 else 1
theorem tab_parts {m : Rm} {s : Int} (h : tabB m s = true) : half s ≠ 0 ∧ 0 ≤ m.gen ∧ m.gen ≤ 4611686018427387904 ∧ m.ps.length ≤ 20 ∧ ∀ i (hi : i < m.ps.length), stepB (half s) s m.ps i = true := by
  unfold tabB at h
  simp only [Bool.and_eq_true, decide_eq_true_eq, List.all_eq_true, List.mem_range] at h
  exact ⟨h.1.1.1.1, h.1.1.1.2, h.1.1.2, h.1.2, fun i hi => h.2 i hi⟩
theorem tab_pair {m : Rm} {s : Int} (h : tabB m s = true) {i : Nat} (hi : i < m.ps.length) : 0 ≤ m.ps[i].1 ∧ m.ps[i].1 < 4096 ∧ 0 ≤ m.ps[i].2 ∧ m.ps[i].2 < 4096 ∧ 2 * half s ≤ m.ps[i].2 ∧ m.ps[i].2 < s ∧ usableB m.ps[i].1 (half s) = true := by
  obtain ⟨h1, -, -, -, h5⟩ := tab_parts h
  have := h5 i hi
  have hl := half_lo h1
  have hg : m.ps.getD i (0, 0) = m.ps[i] := by rw [List.getD_eq_getElem?_getD, List.getElem?_eq_getElem hi]; rfl
  unfold stepB pok at this
  rw [hg] at this
  simp only [Bool.and_eq_true, decide_eq_true_eq] at this
  have hu := this.1.1.1.1
  have hu2 := hu
  unfold usableB at hu
  simp only [Bool.and_eq_true, decide_eq_true_eq] at hu
  refine ⟨by omega, by omega, by omega, by omega, by omega, by omega, hu2⟩
/-- sha's tables stand -/
structure Sh (w : World) : Prop where
  k : ∃ t, Bk w 1 KC t
  b : ∃ t, Bk w 0 HB8 t
theorem Sh.keep {S : Nat → Prop} {w w' : World} (h : Sh w) (f : Fr S w w') (h1 : ¬ S 1) (h0 : ¬ S 0) : Sh w' := by
  obtain ⟨⟨t, hk⟩, ⟨u, hb⟩⟩ := h
  exact ⟨⟨t, f.keep hk h1⟩, ⟨u, f.keep hb h0⟩⟩
theorem Sh.keep0 {w w' : World} (h : Sh w) (f : Fr0 w w') : Sh w' := h.keep f (fun h => h) (fun h => h)
theorem KC_size : KC.size = 64 := by simp [KC, ShaStep.cubes]
theorem HB8_size : HB8.size = 8 := by rfl
/-- a block of a few cells, or of many, is none of sha's -/
theorem Sh.ne {w : World} (h : Sh w) {p : Nat} {cs : Array Value} {t : TypeId} (hb : Bk w p cs t) (h8 : cs.size ≠ 8) (h64 : cs.size ≠ 64) : p ≠ 1 ∧ p ≠ 0 := by
  obtain ⟨⟨t1, hk⟩, ⟨u, hg⟩⟩ := h
  constructor
  · rintro rfl
    have := Option.some.inj (hb.symm.trans hk)
    injection this with e1
    rw [e1, KC_size] at h64
    exact h64 rfl
  · rintro rfl
    have := Option.some.inj (hb.symm.trans hg)
    injection this with e1
    rw [e1, HB8_size] at h8
    exact h8 rfl
theorem wpList_copy_run {P : Program} (w : World) {ops : Array Oper} {rest : List Oper} {o : Oper} {a : Act} {Q : Exit → Act → World → Prop} (hgd : o.guard = none) (d s : Operand) (t t' : TypeId)
    (ho : o.op = .call { callee := .builtin .copy, args := #[d, s], argTypes := #[t, t'] }) (v u : Value) (hd : a.eval d = v) (hs : a.eval s = u) {v' : Value} {w' : World}
    (hr : (Builtin.copy_ #[t, t'] o.type #[v, u]).run P w = .ok v' w') (h : wpList P ops Q rest (a.put o.dst v') w') : wpList P ops Q (o :: rest) a w :=
  wpList_plain hgd fun _ hK => by
    unfold Oper.wp execOp
    simp only [ho, resolve, invoke, builtin, Sem.run_bind, Sem.run_pure, Result.andThen_ok, List.map_toArray, List.map_cons, List.map_nil, hd, hs, hr]
    exact hK _ _ h

end Go.Proofs.YtmkmpfnadcmcoaaDoor.RmTab
namespace Go.Proofs.YtmkmpfnadcmcoaaDoor.RmPut
open Go Go.RowKit Go.Proofs.YtmkmpfnadcmcoaaDoor.K Go.Proofs.YtmkmpfnadcmcoaaDoor.EqKit Go.Proofs.YtmkmpfnadcmcoaaDoor.ArrKit Go.Proofs.YtmkmpfnadcmcoaaDoor.HeldKit Go.Proofs.YtmkmpfnadcmcoaaDoor.GKit Go.Proofs.YtmkmpfnadcmcoaaDoor.GRow Go.Proofs.YtmkmpfnadcmcoaaDoor.DiskKit Go.Proofs.YtmkmpfnadcmcoaaDoor.RmKit Go.Proofs.YtmkmpfnadcmcoaaDoor.MapKit Go.Proofs.YtmkmpfnadcmcoaaDoor.RmRight Go.Proofs.YtmkmpfnadcmcoaaDoor.DiskRRead Go.Proofs.YtmkmpfnadcmcoaaDoor.ShaRot Go.Proofs.YtmkmpfnadcmcoaaDoor.ShaSpread Go.Proofs.YtmkmpfnadcmcoaaDoor.ShaStep Go.Proofs.YtmkmpfnadcmcoaaDoor.ShaPlain Go.Proofs.YtmkmpfnadcmcoaaDoor.ShaRef Go.Proofs.YtmkmpfnadcmcoaaDoor.WordPut Go.Proofs.YtmkmpfnadcmcoaaDoor.ShaSum Go.Proofs.YtmkmpfnadcmcoaaDoor.RmTab
theorem info_l {l : List UInt8} (h : l.length = 128) : (Tryd.prog.info? 22).map (·.size) = some (l.map B).toArray.size := by rw [info_b, List.size_toArray, List.length_map, h]
theorem one_l (l : List UInt8) : (l.map B).toArray.all (·.oneCell') = true := by
  rw [Array.all_eq_true']
  intro v hv
  have hv : v ∈ l.map B := by simpa using hv
  obtain ⟨x, -, rfl⟩ := List.mem_map.1 hv
  rfl
theorem size_l {l : List UInt8} (h : l.length = 128) : ZB.size = (l.map B).toArray.size := by simp [h, ZB, Z128]
theorem zero_bl (W : World) : (zeroValue 22).run Tryd.prog W = .ok (.agg ZB) W := by kernel_rfl
theorem built_l0 : Tryd.prog.built 22 [(0, .int .u8 109)] = some (L0.map B).toArray := by kernel_rfl
theorem zero_32 (W : World) : (zeroValue 35).run Tryd.prog W = .ok (.agg Z32) W := by kernel_rfl
theorem wr_i (x : Int) (h0 : 0 ≤ x) (h1 : x ≤ 100000) : IntKind.i64.wrap x = x := by rw [IntKind.wrap_i64]; omega
/-- a number laid into 128 bytes -/
theorem wput_l {G p wd x : Nat} {l l' : List UInt8} (W : World) (hl : l.length = 128) (hp : p + wd ≤ 128) (hf : Fits x wd) (hx : x ≤ 9223372036854775807) (he : spl l p (le x wd) = l') (hb : Bk W G (l.map B).toArray 22) :
    Calls Tryd.prog 55 #[.slice (some ⟨G, 0, none⟩) 128 128, .int .i64 (p : Int), .int .i64 (wd : Int), .int .i64 (x : Int)] W fun e w' => e = .returned (.int .i64 0) ∧ Bk w' G (l'.map B).toArray 22 ∧ Fr (fun i => i = G) W w' := by
  refine (WordPut.put_ok G 0 128 128 p wd x _ 22 W hb (by omega) (by omega) (by omega) (by rw [List.size_toArray, List.length_map, hl]; omega) hx hp hf).mono ?_
  rintro e w' ⟨rfl, h1, h2⟩
  refine ⟨rfl, ?_, h2⟩
  rw [Nat.zero_add, lay_spl _ _ _ (by rw [le_length, hl]; exact hp), he] at h1
  exact h1
theorem fits2 {x : Nat} (h : x < 65536) : Fits (x : Int) ((2 : Nat) : Int) := by
  refine ⟨by omega, by omega, by omega, fun _ => ?_⟩
  show (x : Int) / 65536 ≤ 0
  omega
theorem fits1 {x : Nat} (h : x < 256) : Fits (x : Int) ((1 : Nat) : Int) := by
  refine ⟨by omega, by omega, by omega, fun _ => ?_⟩
  show (x : Int) / 256 ≤ 0
  omega
theorem fits8 (x : Nat) : Fits (x : Int) ((8 : Nat) : Int) := ⟨by omega, by omega, by omega, fun h => by omega⟩

set_option maxHeartbeats 2000000 in
set_option maxRecDepth 100000 in
theorem put_no (m : Rm) (a : Option Addr) (c : Nat) (s : Int) (w : World) (hok : m.ok) (hv : RV w m a c) (hs : (Lit.int .i64 s).wf = true) (ht : tabB m s = false) : Calls Tryd.prog 35 #[.agg (rval m a c), .int .i64 s] w fun e w' => e = .returned (.tuple #[.agg ZB, .int .i64 1]) ∧ Fr0 w w' := by
  have hz := zero_bl
  have hs1 : (w.alloc (.cells (rval m a c) 32)).heap.size = w.heap.size + 1 := by simp
  have HX : Hid (Bk ((w.alloc (.cells (rval m a c) 32)).alloc (.cells ZB 22)) w.heap.size (rval m a c) 32) := Lib.hid (Bk.alloc (Bk.new w _) _)
  have HR : Hid (Bk ((w.alloc (.cells (rval m a c) 32)).alloc (.cells ZB 22)) (w.heap.size + 1) ZB 22) := Lib.hid (by have := Bk.new (w.alloc (.cells (rval m a c) 32)) (.cells ZB 22); rwa [hs1] at this)
  have HF : Hid (Fr0 w ((w.alloc (.cells (rval m a c) 32)).alloc (.cells ZB 22))) := Lib.hid (Fr.alloc (Fr.alloc (Fr.refl _ _) _) _)
  have HRI : Hid (∀ W, Fr0 w W → Calls Tryd.prog 41 #[.agg (rval m a c), .int .i64 s] W fun e w' => e = .returned (.bool false) ∧ Fr0 W w') := Lib.hid (fun W f => by have := right_calls m a c s W hok (hv.keep f) hs; rwa [ht] at this)
  have HIN : Hid ((Tryd.prog.info? 32).map (·.size) = some (rval m a c).size) := Lib.hid (info_r _ _)
  clear hs1
  clear hok hv ht
  generalize rval m a c = X at *
  go_enter Tryd.func35, Tryd.ntmps35
  go_wp2_with (first | ((with_reducible show wpList _ _ _ ({ dst := _, op := Op.load 32 _, type := _, pos := _, after := _, guard := _ } :: _) _ _); refine wpList_load_row_g (by rfl) 32 _ rfl w.heap.size rfl 32 X (0, 0) _ HX.out Tryd.underlying32 rfl HIN.out ?_) | (go_at_call 41; (with_reducible refine (HRI.out _ HF.out).mono ?_); rintro e w2 ⟨rfl, hf2⟩; have HR2 := Lib.hid (hf2.keep HR.out (fun h => h)); have HX2 := Lib.hid (hf2.keep HX.out (fun h => h)); have HF2 := Lib.hid (HF.out.then0 hf2); clear hf2) | ((with_reducible show wpList _ _ _ ({ dst := _, op := Op.build 22 _, type := _, pos := _, after := _, guard := _ } :: _) _ _); refine build_ev rfl 22 _ rfl [] (by simp) ZB built_zb ?_) | ((with_reducible show wpList _ _ _ ({ dst := _, op := Op.store 22 _ _, type := _, pos := _, after := _, guard := _ } :: _) _ _); refine wpList_store_row rfl 22 _ _ rfl (w.heap.size + 1) ZB rfl rfl 22 ZB HR2.out info_zb rfl ZB_one ?_))
  refine fin_ct (w.heap.size + 1) 22 ZB (.int .i64 1) (by rfl) (by rfl) (by rfl) (by rfl) Tryd.underlying22 (by rfl) info_zb (ArrKit.Bk.row HR2.out _) ?_
  exact ⟨rfl, ArrKit.Fr.row HF2.out _ _ (.inl (by omega))⟩

set_option maxHeartbeats 2000000 in
set_option maxRecDepth 100000 in
theorem put_yes (m : Rm) (a : Option Addr) (c : Nat) (s : Int) (w : World) (hok : m.ok) (hv : RV w m a c) (hs : (Lit.int .i64 s).wf = true) (ht : tabB m s = true) (hsh : Sh w) : Calls Tryd.prog 35 #[.agg (rval m a c), .int .i64 s] w fun e w' => e = .returned (.tuple #[.agg ((tabL m).map B).toArray, .int .i64 0]) ∧ Fr0 w w' := by
  have hz := zero_bl
  have hs1 : (w.alloc (.cells (rval m a c) 32)).heap.size = w.heap.size + 1 := by simp
  have HX : Hid (Bk ((w.alloc (.cells (rval m a c) 32)).alloc (.cells ZB 22)) w.heap.size (rval m a c) 32) := Lib.hid (Bk.alloc (Bk.new w _) _)
  have HR : Hid (Bk ((w.alloc (.cells (rval m a c) 32)).alloc (.cells ZB 22)) (w.heap.size + 1) ZB 22) := Lib.hid (by have := Bk.new (w.alloc (.cells (rval m a c) 32)) (.cells ZB 22); rwa [hs1] at this)
  have HF : Hid (Fr0 w ((w.alloc (.cells (rval m a c) 32)).alloc (.cells ZB 22))) := Lib.hid (Fr.alloc (Fr.alloc (Fr.refl _ _) _) _)
  have HRI : Hid (∀ W, Fr0 w W → Calls Tryd.prog 41 #[.agg (rval m a c), .int .i64 s] W fun e w' => e = .returned (.bool true) ∧ Fr0 W w') := Lib.hid (fun W f => by have := right_calls m a c s W hok (hv.keep f) hs; rwa [ht] at this)
  have HIN : Hid ((Tryd.prog.info? 32).map (·.size) = some (rval m a c).size) := Lib.hid (info_r _ _)
  clear hs1
  have HV := Lib.hid hv
  have HSH := Lib.hid hsh
  have hpt := tab_parts ht
  have hlen := hpt.2.2.2.1
  have HPR : Hid (∀ i (hi : i < m.ps.length), ∃ f t : Nat, m.ps[i] = ((f : Int), (t : Int)) ∧ f < 4096 ∧ t < 4096) := Lib.hid (fun i hi => by
    have := tab_pair ht hi
    refine ⟨m.ps[i].1.toNat, m.ps[i].2.toNat, ?_, by omega, by omega⟩
    rw [Int.toNat_of_nonneg this.1, Int.toNat_of_nonneg this.2.2.1])
  obtain ⟨gn, hgn⟩ : ∃ gn : Nat, m.gen = (gn : Int) := ⟨m.gen.toNat, by omega⟩
  have HGN : Hid (m.gen.toNat = gn) := Lib.hid (by omega)
  have hgn2 : gn ≤ 4611686018427387904 := by omega
  have HW1 : Hid (∀ G W, Bk W G (L0.map B).toArray 22 → Calls Tryd.prog 55 #[.slice (some ⟨G, 0, none⟩) 128 128, .int .i64 1, .int .i64 8, .int .i64 (gn : Int)] W fun e w' => e = .returned (.int .i64 0) ∧ Bk w' G ((L1 m).map B).toArray 22 ∧ Fr (fun i => i = G) W w') := Lib.hid (fun G W h => wput_l (p := 1) (wd := 8) W L0_len (by omega) (fits8 gn) (by omega) (by have := stepGen m; rwa [HGN.out] at this) h)
  have HW2 : Hid (∀ G W, Bk W G ((L1 m).map B).toArray 22 → Calls Tryd.prog 55 #[.slice (some ⟨G, 0, none⟩) 128 128, .int .i64 9, .int .i64 1, .int .i64 (m.ps.length : Int)] W fun e w' => e = .returned (.int .i64 0) ∧ Bk w' G ((bodyB m 0).map B).toArray 22 ∧ Fr (fun i => i = G) W w') := Lib.hid (fun G W h => wput_l (p := 9) (wd := 1) W (L1_len m) (by omega) (fits1 (by omega)) (by omega) (stepLen m) h)
  have HP0 : Hid ((rval m a c)[0]? = some (.int .i64 (gn : Int))) := Lib.hid (by show some (Value.int .i64 m.gen) = _; rw [hgn])
  have HP1 : Hid ((rval m a c)[1]? = some (.slice a m.ps.length c)) := Lib.hid rfl
  clear hok hv ht hgn hpt hsh
  generalize rval m a c = X at *
  go_enter Tryd.func35, Tryd.ntmps35
  go_wp2_with (first | ((with_reducible show wpList _ _ _ ({ dst := _, op := Op.load 32 _, type := _, pos := _, after := _, guard := _ } :: _) _ _); refine wpList_load_row_g (by rfl) 32 _ rfl w.heap.size rfl 32 X (0, 0) _ HX.out Tryd.underlying32 rfl HIN.out ?_) | (go_at_call 41; (with_reducible refine (HRI.out _ HF.out).mono ?_); rintro e w2 ⟨rfl, hf2⟩; have HR2 := Lib.hid (hf2.keep HR.out (fun h => h)); have HX2 := Lib.hid (hf2.keep HX.out (fun h => h)); have HF2 := Lib.hid (HF.out.then0 hf2); have HZ2 := Lib.hid (Bk.new w2 (.cells ZB 22)); clear hf2) | ((with_reducible show wpList _ _ _ ({ dst := _, op := Op.build 22 _, type := _, pos := _, after := _, guard := _ } :: _) _ _); refine build_ev rfl 22 _ rfl [(0, .int .u8 109)] (by simp [Act.eval, Act.put]) (L0.map B).toArray built_l0 ?_) | ((with_reducible show wpList _ _ _ ({ dst := _, op := Op.store 22 _ _, type := _, pos := _, after := _, guard := _ } :: _) _ _); refine wpList_store_row rfl 22 _ _ rfl w2.heap.size (L0.map B).toArray rfl rfl 22 ZB HZ2.out (info_l L0_len) (size_l L0_len) (one_l _) ?_))
  have hft : Fr0 w2 ((w2.alloc (.cells ZB 22)).setRow w2.heap.size (L0.map B).toArray) := ArrKit.Fr.row (Fr.alloc (Fr.refl _ _) _) _ _ (.inl (Nat.le_refl _))
  have HG3 : Hid (Bk ((w2.alloc (.cells ZB 22)).setRow w2.heap.size (L0.map B).toArray) w2.heap.size (L0.map B).toArray 22) := Lib.hid (ArrKit.Bk.row HZ2.out _)
  have HX3 := Lib.hid (hft.keep HX2.out (fun h => h))
  have HR3 := Lib.hid (hft.keep HR2.out (fun h => h))
  have HF3 := Lib.hid (HF2.out.then0 hft)
  have hG1 : w.heap.size + 1 < w2.heap.size := Bk.lt HR2.out
  clear hft HX2 HR2 HF2 HZ2 HX HR HF HRI HIN
  generalize ((w2.alloc (.cells ZB 22)).setRow w2.heap.size (L0.map B).toArray) = w3 at *
  generalize w2.heap.size = G at *
  have c0 : w3.cell? ⟨w.heap.size, 0, none⟩ = some (.int .i64 (gn : Int)) := (Bk.cell HX3.out 0).trans HP0.out
  go_still_tail 3, (by kernel_rfl)
  change wpList _ _ _ _ _ w3.drew
  have HG4 := HG3
  have HX4 := HX3
  have HR4 := HR3
  have HF4 : Hid (Fr0 w w3.drew) := Lib.hid (Fr.drew HF3.out)
  clear HG3 HX3 HR3 HF3
  change wpList _ _ _ _ _ w3.drew
  change Hid (Bk w3.drew _ _ _) at HG4 HX4 HR4
  generalize w3.drew = w4 at *
  go_wp2_with (first | (go_at_call 55; (with_reducible refine (HW1.out G _ HG4.out).mono ?_); rintro e w5 ⟨rfl, hb_, hf_⟩; have HG5 := Lib.hid hb_; have HX5 := Lib.hid (hf_.keep HX4.out (by omega)); have HR5 := Lib.hid (hf_.keep HR4.out (by omega)); have HF5 : Hid (Fr0 w w5) := Lib.hid (Fr.newG HF4.out hf_ (by omega)); clear hb_ hf_))
  have c1 : w5.cell? ⟨w.heap.size, 1, none⟩ = some (.slice a m.ps.length c) := (Bk.cell HX5.out 1).trans HP1.out
  go_still_tail 4, (by kernel_rfl)
  change wpList _ _ _ _ _ w5.drew
  have HG6 := HG5
  have HX6 := HX5
  have HR6 := HR5
  have HF6 : Hid (Fr0 w w5.drew) := Lib.hid (Fr.drew HF5.out)
  clear HG5 HX5 HR5 HF5
  change wpList _ _ _ _ _ w5.drew
  change Hid (Bk w5.drew _ _ _) at HG6 HX6 HR6
  generalize w5.drew = w6 at *
  go_wp2_with (first | (go_at_call 55; (with_reducible refine (HW2.out G _ HG6.out).mono ?_); rintro e w7 ⟨rfl, hb_, hf_⟩; have HG7 := Lib.hid hb_; have HX7 := Lib.hid (hf_.keep HX6.out (by omega)); have HR7 := Lib.hid (hf_.keep HR6.out (by omega)); have HF7 : Hid (Fr0 w w7) := Lib.hid (Fr.newG HF6.out hf_ (by omega)); have c17 : w7.cell? ⟨w.heap.size, 1, none⟩ = some (.slice a m.ps.length c) := (Bk.cell HX7.out 1).trans HP1.out; clear hb_ hf_))
  have hzp := zero_pr
  go_loopw [28] (fun jj W => ∃ j : Nat, j ≤ m.ps.length ∧ jj = .int .i64 j ∧ Bk W G ((bodyB m j).map B).toArray 22 ∧ Bk W w.heap.size X 32 ∧ Bk W (w.heap.size + 1) ZB 22 ∧ Fr0 w W) (fun jj _ => m.ps.length - (intOf jj).toNat)
  case atStart => exact ⟨0, Nat.zero_le _, rfl, HG7.out, HX7.out, HR7.out, HF7.out⟩
  case round =>
    obtain ⟨j, hj, rfl, hg, hx, hr, hF⟩ := hrel
    by_cases hjl : j < m.ps.length
    · obtain ⟨b2, o2, rfl, hat⟩ := RdP.form HV.out.rd hjl
      have HRG := Lib.hid (hat _ (HV.out.rd.keep hF)).1
      obtain ⟨f, t, hft, hf1, hf2⟩ := HPR.out j hjl
      have hs1 := step1 m m.ps[j].1 hj
      have hs2 := step2 m hjl
      rw [hft] at HRG hs1 hs2
      rw [Int.toNat_natCast] at hs1
      simp only [Int.toNat_natCast] at hs2
      have HWA : Hid (∀ W, Bk W G ((bodyB m j).map B).toArray 22 → Calls Tryd.prog 55 #[.slice (some ⟨G, 0, none⟩) 128 128, .int .i64 (10 + 4 * (j : Int)), .int .i64 2, .int .i64 (f : Int)] W fun e w' => e = .returned (.int .i64 0) ∧ Bk w' G ((halfB m j (f : Int)).map B).toArray 22 ∧ Fr (fun i => i = G) W w') := Lib.hid (fun W h => by have := wput_l (p := 10 + 4 * j) (wd := 2) W (bodyB_len m hj hlen) (by omega) (fits2 (by omega)) (by omega) hs1 h; rwa [show ((10 + 4 * j : Nat) : Int) = 10 + 4 * (j : Int) by omega] at this)
      have HWB : Hid (∀ W, Bk W G ((halfB m j (f : Int)).map B).toArray 22 → Calls Tryd.prog 55 #[.slice (some ⟨G, 0, none⟩) 128 128, .int .i64 (10 + 4 * (j : Int) + 2), .int .i64 2, .int .i64 (t : Int)] W fun e w' => e = .returned (.int .i64 0) ∧ Bk w' G ((bodyB m (j + 1)).map B).toArray 22 ∧ Fr (fun i => i = G) W w') := Lib.hid (fun W h => by have := wput_l (p := 12 + 4 * j) (wd := 2) W (halfB_len m _ hj hlen) (by omega) (fits2 (by omega)) (by omega) hs2 h; rwa [show ((12 + 4 * j : Nat) : Int) = 10 + 4 * (j : Int) + 2 by omega] at this)
      have hf6 : Fr0 wr ((wr.alloc (.cells PZ2 98)).setRow wr.heap.size (PR ((f : Int), (t : Int))).toArray) := ArrKit.Fr.row (Fr.alloc (Fr.refl _ _) _) _ _ (.inl (Nat.le_refl _))
      have HZR := Lib.hid (Bk.new wr (.cells PZ2 98))
      have HB1 := Lib.hid (ArrKit.Bk.row HZR.out (PR ((f : Int), (t : Int))).toArray)
      have HF1 := Lib.hid (hF.then0 hf6)
      have HX1 := Lib.hid (hf6.keep hx (fun h => h))
      have HR1 := Lib.hid (hf6.keep hr (fun h => h))
      have HG1 := Lib.hid (hf6.keep hg (fun h => h))
      have hgp : G < wr.heap.size := Bk.lt hg
      clear hat hg hx hr hF hf6 hft hs1 hs2
      go_wp2_with (first | ((with_reducible show wpList _ _ _ ({ dst := _, op := Op.load 98 _, type := _, pos := _, after := _, guard := _ } :: _) _ _); refine wpList_load_mid rfl 98 _ rfl b2 (o2 + j * 2) rfl (PR ((f : Int), (t : Int))) _ HRG.out Tryd.underlying98 rfl (info_pr _) ?_) | ((with_reducible show wpList _ _ _ ({ dst := _, op := Op.store 98 _ _, type := _, pos := _, after := _, guard := _ } :: _) _ _); refine wpList_store_row rfl 98 _ _ rfl wr.heap.size (PR ((f : Int), (t : Int))).toArray rfl rfl 98 PZ2 HZR.out (info_pr2 _) rfl (PR_all _) ?_))
      clear HZR
      generalize (wr.alloc (.cells PZ2 98)).setRow wr.heap.size (PR ((f : Int), (t : Int))).toArray = w1 at *
      generalize wr.heap.size = gp at *
      have d0 : w1.cell? ⟨gp, 0, none⟩ = some (.int .i64 (f : Int)) := (Bk.cell HB1.out 0).trans (PR_0 _ _)
      have hw4 : IntKind.i64.wrap (4 * (j : Int)) = 4 * (j : Int) := wr_i _ (by omega) (by omega)
      have hw10 : IntKind.i64.wrap (10 + 4 * (j : Int)) = 10 + 4 * (j : Int) := wr_i _ (by omega) (by omega)
      have hw12 : IntKind.i64.wrap (10 + 4 * (j : Int) + 2) = 10 + 4 * (j : Int) + 2 := wr_i _ (by omega) (by omega)
      go_still_tail 6, (by kernel_rfl)
      change wpList _ _ _ _ _ w1.drew
      have HBd : Hid (Bk w1.drew gp (PR ((f : Int), (t : Int))).toArray 98) := Lib.hid HB1.out
      have HGd : Hid (Bk w1.drew G ((bodyB m j).map B).toArray 22) := Lib.hid HG1.out
      have HXd : Hid (Bk w1.drew w.heap.size X 32) := Lib.hid HX1.out
      have HRd : Hid (Bk w1.drew (w.heap.size + 1) ZB 22) := Lib.hid HR1.out
      have HFd : Hid (Fr0 w w1.drew) := Lib.hid (Fr.drew HF1.out)
      clear HB1 HG1 HX1 HR1 HF1 d0
      generalize w1.drew = wd at *
      go_wp2_with (first | (go_at_call 55; (with_reducible refine (HWA.out  _ HGd.out).mono ?_); rintro e we ⟨rfl, hb_, hf_⟩; have HGe := Lib.hid hb_; have HXe := Lib.hid (hf_.keep HXd.out (by omega)); have HRe := Lib.hid (hf_.keep HRd.out (by omega)); have HBe := Lib.hid (hf_.keep HBd.out (by omega)); have HFe : Hid (Fr0 w we) := Lib.hid (Fr.newG HFd.out hf_ (by omega)); have d1 : we.cell? ⟨gp, 1, none⟩ = some (.int .i64 (t : Int)) := (Bk.cell HBe.out 1).trans (PR_1 _ _); clear hb_ hf_))
      go_still_tail 7, (by kernel_rfl)
      change wpList _ _ _ _ _ we.drew
      have HGg : Hid (Bk we.drew G ((halfB m j (f : Int)).map B).toArray 22) := Lib.hid HGe.out
      have HXg : Hid (Bk we.drew w.heap.size X 32) := Lib.hid HXe.out
      have HRg : Hid (Bk we.drew (w.heap.size + 1) ZB 22) := Lib.hid HRe.out
      have HFg : Hid (Fr0 w we.drew) := Lib.hid (Fr.drew HFe.out)
      clear HGe HXe HRe HFe HBe HBd HGd HXd HRd HFd d1
      generalize we.drew = wg at *
      go_wp2_with (first | (go_at_call 55; (with_reducible refine (HWB.out  _ HGg.out).mono ?_); rintro e wh ⟨rfl, hb_, hf_⟩; have HGh := Lib.hid hb_; have HXh := Lib.hid (hf_.keep HXg.out (by omega)); have HRh := Lib.hid (hf_.keep HRg.out (by omega)); have HFh : Hid (Fr0 w wh) := Lib.hid (Fr.newG HFg.out hf_ (by omega)); clear hb_ hf_))
      go_roundw
      case rel => exact ⟨j + 1, by omega, by go_num, HGh.out, HXh.out, HRh.out, HFh.out⟩
      case measure => simp [intOf]; omega
    · have hje : j = m.ps.length := by omega
      subst hje
      have HG8 := Lib.hid hg
      have HX8 := Lib.hid hx
      have HR8 := Lib.hid hr
      have HF8 := Lib.hid hF
      have hbl := bodyB_len m (Nat.le_refl _) hlen
      have hhl := headB_len m hlen
      have HRD : Hid (Rd wr (some ⟨G, 0, none⟩) (headB m)) := Lib.hid (Rd.block hg (fun i hi => by
        rw [hhl] at hi
        rw [Nat.zero_add, List.getElem?_toArray, List.getElem?_map, List.getElem?_eq_getElem (by omega)]
        simp [headB]))
      have HSU : Hid (Calls Tryd.prog 39 #[.slice (some ⟨G, 0, none⟩) 96 128] wr fun e w' => e = .returned (.agg ((sumOf (headB m)).map B).toArray) ∧ Fr0 wr w') := Lib.hid (by
        obtain ⟨⟨t1, hk⟩, ⟨t2, hb⟩⟩ := HSH.out.keep0 hF
        exact ShaSum.sum_calls _ 96 128 (headB m) wr hhl HRD.out (by omega) hk hb)
      have HSL : Hid ((sumOf (headB m)).length = 32) := Lib.hid (sumOf_length _)
      have HST : Hid (spl (bodyB m m.ps.length) 96 (sumOf (headB m)) = tabL m) := Lib.hid (step_sum m hlen)
      have hz2 := zero_32
      have HI32 : Hid ((Tryd.prog.info? 35).map (·.size) = some ((sumOf (headB m)).map B).toArray.size ∧ Z32.size = ((sumOf (headB m)).map B).toArray.size) := Lib.hid (by rw [info32a, List.size_toArray, List.length_map, HSL.out]; exact ⟨rfl, rfl⟩)
      have HO32 := Lib.hid (one_l (sumOf (headB m)))
      clear hg hx hr hF HRD
      generalize sumOf (headB m) = sm at *
      go_wp2_with (first | (go_at_call 39; (with_reducible refine (HSU.out).mono ?_); rintro e w9 ⟨rfl, hf9⟩; have HZ9 := Lib.hid (Bk.new w9 (.cells Z32 35)); have HG9 := Lib.hid (hf9.keep HG8.out (fun h => h)); have HR9 := Lib.hid (hf9.keep HR8.out (fun h => h)); have HF9 := Lib.hid (HF8.out.then0 hf9); clear hf9) | ((with_reducible show wpList _ _ _ ({ dst := _, op := Op.store 35 _ _, type := _, pos := _, after := _, guard := _ } :: _) _ _); refine wpList_store_row rfl 35 _ _ rfl w9.heap.size (sm.map B).toArray rfl rfl 35 Z32 HZ9.out HI32.out.1 HI32.out.2 HO32.out ?_))
      have hfa : Fr0 w9 ((w9.alloc (.cells Z32 35)).setRow w9.heap.size (sm.map B).toArray) := ArrKit.Fr.row (Fr.alloc (Fr.refl _ _) _) _ _ (.inl (Nat.le_refl _))
      have HSa := Lib.hid (ArrKit.Bk.row HZ9.out (sm.map B).toArray)
      have HGa := Lib.hid (hfa.keep HG9.out (fun h => h))
      have HRa := Lib.hid (hfa.keep HR9.out (fun h => h))
      have HFa := Lib.hid (HF9.out.then0 hfa)
      clear hfa HZ9 HG9 HR9 HF9 HG8 HX8 HR8 HF8 HSU
      generalize (w9.alloc (.cells Z32 35)).setRow w9.heap.size (sm.map B).toArray = wa at *
      generalize w9.heap.size = gs at *
      go_still_tail 2, (by kernel_rfl)
      change wpList _ _ _ _ _ wa.drew
      have HC : Hid (∀ ty, (Builtin.copy_ #[48, 48] ty #[.slice (some ⟨G, 96, none⟩) 32 32, .slice (some ⟨gs, 0, none⟩) 32 32]).run Tryd.prog wa.drew = .ok (goInt (sm.map B).length) (wa.drew.setCells G 96 (sm.map B))) := Lib.hid fun ty => by
        have hbg : Bk wa.drew G _ 22 := Bk.drew HGa.out
        have hby : Bk wa.drew gs _ 35 := Bk.drew HSa.out
        have hl : (sm.map B).length = 32 := by rw [List.length_map, HSL.out]
        exact run_copy_cells wa.drew 48 48 ty 5 G 96 32 32 ⟨gs, 0, none⟩ 32 32 (sm.map B) Tryd.underlying48 (by kernel_rfl) (by rw [hl]; rfl) (fun j v hj => by rw [add_form, hby.cell, Nat.zero_add, List.getElem?_toArray]; exact hj) (fun j hj => by rw [hbg.cell, Array.getElem?_eq_getElem (by rw [List.size_toArray, List.length_map, hbl]; omega)]; rfl) (fun j hj => hbg.free _) (by intro v hv; obtain ⟨x, _, rfl⟩ := List.mem_map.1 hv; rfl)
      have HGb : Hid (Bk (wa.drew.setCells G 96 (sm.map B)) G ((tabL m).map B).toArray 22) := Lib.hid (by
        have := sets_bk (sm.map B) 96 _ _ (Bk.drew HGa.out)
        rwa [lay_spl _ _ _ (by rw [HSL.out, hbl]; omega), HST.out] at this)
      have HRb : Hid (Bk (wa.drew.setCells G 96 (sm.map B)) (w.heap.size + 1) ZB 22) := Lib.hid ((sets_fr (sm.map B) 96 wa.drew (Fr.refl (· = G) _)).keep (Bk.drew HRa.out) (by omega))
      have HFb : Hid (Fr0 w (wa.drew.setCells G 96 (sm.map B))) := Lib.hid (Fr.newG (Fr.drew HFa.out) (sets_fr (sm.map B) 96 wa.drew (Fr.refl (· = G) _)) (by omega))
      generalize hwb : wa.drew.setCells G 96 (sm.map B) = wb at *
      have HWB2 := Lib.hid hwb
      clear hwb
      have HTL := Lib.hid (tabL_len m hlen)
      go_wp2_with (first | (refine wpList_copy_run _ rfl _ _ 48 48 rfl _ _ rfl rfl (HC.out _) ?_) | ((with_reducible show wpList _ _ _ ({ dst := _, op := Op.load 22 _, type := _, pos := _, after := _, guard := _ } :: _) _ _); refine wpList_load_row_g (by rfl) 22 _ rfl G rfl 22 ((tabL m).map B).toArray (0, 0) _ HGb.out Tryd.underlying22 rfl (info_l HTL.out) ?_) | ((with_reducible show wpList _ _ _ ({ dst := _, op := Op.store 22 _ _, type := _, pos := _, after := _, guard := _ } :: _) _ _); refine wpList_store_row rfl 22 _ _ rfl (w.heap.size + 1) ((tabL m).map B).toArray rfl rfl 22 ZB HRb.out (info_l HTL.out) (size_l HTL.out) (one_l _) ?_))
      refine fin_ct (w.heap.size + 1) 22 ((tabL m).map B).toArray (.int .i64 0) (by rfl) (by rfl) (by rfl) (by rfl) Tryd.underlying22 (by rfl) (info_l HTL.out) (ArrKit.Bk.row HRb.out _) ?_
      exact ⟨rfl, ArrKit.Fr.row HFb.out _ _ (.inl (by omega))⟩
theorem put_calls (m : Rm) (a : Option Addr) (c : Nat) (s : Int) (w : World) (hok : m.ok) (hv : RV w m a c) (hs : (Lit.int .i64 s).wf = true) (hsh : Sh w) : Calls Tryd.prog 35 #[.agg (rval m a c), .int .i64 s] w fun e w' => e = .returned (.tuple #[.agg ((tabX m s).map B).toArray, .int .i64 (tabE m s)]) ∧ Fr0 w w' := by
  unfold tabX tabE
  cases ht : tabB m s with
  | false => exact put_no m a c s w hok hv hs ht
  | true => exact put_yes m a c s w hok hv hs ht hsh

end Go.Proofs.YtmkmpfnadcmcoaaDoor.RmPut
