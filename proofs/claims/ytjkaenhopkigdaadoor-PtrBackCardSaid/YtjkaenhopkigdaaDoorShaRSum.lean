/- Sums as the reference does them: the walk of lazaretref01.Sum. -/
import Derived.Test.YtjkaenhopkigdaaDoorShaSum
set_option linter.unusedVariables false
set_option linter.unusedSimpArgs false
namespace Go.Proofs.YtjkaenhopkigdaaDoor.ShaRSum
open Go Go.RowKit Go.Proofs.YtjkaenhopkigdaaDoor.K Go.Proofs.YtjkaenhopkigdaaDoor.ShaRot Go.Proofs.YtjkaenhopkigdaaDoor.ArrKit Go.Proofs.YtjkaenhopkigdaaDoor.ShaSpread Go.Proofs.YtjkaenhopkigdaaDoor.ShaStep Go.Proofs.YtjkaenhopkigdaaDoor.ShaRef Go.Proofs.YtjkaenhopkigdaaDoor.RefCopy Go.Proofs.YtjkaenhopkigdaaDoor.ShaPad Go.Proofs.YtjkaenhopkigdaaDoor.ShaSum

def Z64 : Array Value := #[.int .u8 0, .int .u8 0, .int .u8 0, .int .u8 0, .int .u8 0, .int .u8 0, .int .u8 0, .int .u8 0, .int .u8 0, .int .u8 0, .int .u8 0, .int .u8 0, .int .u8 0, .int .u8 0, .int .u8 0, .int .u8 0, .int .u8 0, .int .u8 0, .int .u8 0, .int .u8 0, .int .u8 0, .int .u8 0, .int .u8 0, .int .u8 0, .int .u8 0, .int .u8 0, .int .u8 0, .int .u8 0, .int .u8 0, .int .u8 0, .int .u8 0, .int .u8 0, .int .u8 0, .int .u8 0, .int .u8 0, .int .u8 0, .int .u8 0, .int .u8 0, .int .u8 0, .int .u8 0, .int .u8 0, .int .u8 0, .int .u8 0, .int .u8 0, .int .u8 0, .int .u8 0, .int .u8 0, .int .u8 0, .int .u8 0, .int .u8 0, .int .u8 0, .int .u8 0, .int .u8 0, .int .u8 0, .int .u8 0, .int .u8 0, .int .u8 0, .int .u8 0, .int .u8 0, .int .u8 0, .int .u8 0, .int .u8 0, .int .u8 0, .int .u8 0]
set_option maxHeartbeats 2000000 in
set_option maxRecDepth 100000 in
theorem rsum_calls (a : Option Addr) (n c : Nat) (l : List UInt8) (w : World) (hl : l.length = n) (hrd : Rd w a l) (hn : n ≤ 140737488351232) :
    Calls Tryd.prog 19 #[.slice a n c] w fun e w' => e = .returned (.agg ((sumOf l).map B).toArray) ∧ Fr0 w w' := by
  have HL := Lib.hid hl
  have GF : Hid (Fr0 w (w.alloc (.cells Z32 24))) := Lib.hid (Fr.alloc (Fr.refl _ _) _)
  have GR : Hid (Bk (w.alloc (.cells Z32 24)) w.heap.size Z32 24) := Lib.hid (Bk.new w _)
  have GL := Lib.hid (hrd.later GF.out (fun _ _ h => h))
  clear hl hrd
  go_enter Tryd.func19, Tryd.ntmps19
  go_wp2_with (first | (go_at_call 34; change Calls _ _ _ (w.alloc (.cells Z32 24)) _; (with_reducible refine (rpad_calls a n c l _ HL.out GL.out hn).mono ?_); rintro e w3 ⟨g, cap, cur, rfl, hge, hown, hfr⟩; have HO := Lib.hid hown; have HF := Lib.hid hfr; have HGE := Lib.hid hge; clear hown hfr hge) | (go_at_call 35; (with_reducible refine (first_calls _).mono ?_); rintro e w4 ⟨rfl, hf4⟩; have HF4 := Lib.hid hf4; have HN5 : Hid (Bk (w4.alloc (.cells Z8 54)) w4.heap.size Z8 54) := Lib.hid (Bk.new _ _); clear hf4) | (refine wpList_store_row rfl 54 _ _ rfl w4.heap.size HB8 rfl rfl 54 Z8 HN5.out (by kernel_rfl) rfl (by kernel_rfl) ?_; change wpList _ _ _ _ _ ((w4.alloc (.cells Z8 54)).setRow w4.heap.size HB8)))
  have hg4 : w.heap.size < g ∧ g < w4.heap.size := by
    have h1 := HGE.out
    have h2 := Bk.lt (HF4.out.keep HO.out.blk (fun h => h))
    simp at h1
    omega
  have HG4 := Lib.hid hg4
  have hold : ∀ k o, w3.heap[k]? = some o → ((w4.alloc (.cells Z8 54)).setRow w4.heap.size HB8).heap[k]? = some o := fun k o h => ArrKit.Bk.rowOther (Bk.alloc (HF4.out.keep h (fun h => h)) _) _ (by have := Bk.lt (HF4.out.keep h (fun h => h)); omega)
  have KH : Hid (Bk ((w4.alloc (.cells Z8 54)).setRow w4.heap.size HB8) w4.heap.size HB8 54) := Lib.hid (ArrKit.Bk.row HN5.out _)
  have KR : Hid (Bk ((w4.alloc (.cells Z8 54)).setRow w4.heap.size HB8) w.heap.size Z32 24) := Lib.hid (hold _ _ (HF.out.keep GR.out (fun h => h)))
  have KO : Hid (Own ((w4.alloc (.cells Z8 54)).setRow w4.heap.size HB8) g (padOf l).length cap cur (padOf l)) := Lib.hid ⟨hold _ _ HO.out.blk, HO.out.len, HO.out.room, HO.out.size, HO.out.cap, HO.out.here⟩
  have KF : Hid (Fr0 w ((w4.alloc (.cells Z8 54)).setRow w4.heap.size HB8)) := Lib.hid (ArrKit.Fr.row (Fr.alloc ((GF.out.then0 HF.out).then0 HF4.out) _) _ _ (.inl (by omega)))
  clear hold hg4 HN5 HF4 HF HO HGE GL GR GF
  generalize (w4.alloc (.cells Z8 54)).setRow w4.heap.size HB8 = w5 at *
  generalize w4.heap.size = H at *
  have HTc : Hid ((padOf l).length ≤ cap ∧ cap ≤ 9223372036854775807) := Lib.hid ⟨KO.out.room, KO.out.cap⟩
  generalize hp : padOf l = p at *
  generalize hT : p.length = T at *
  have HP := Lib.hid hp
  have HT := Lib.hid hT
  have h64 : T % 64 = 0 := by
    rw [← hT, ← hp, padOf_length, zs]; omega
  have hTm : T ≤ 140737488351400 := by
    have := HL.out
    rw [← hT, ← hp, padOf_length, zs]; omega
  clear hp hT
  go_loopw [5] (fun v wr => ∃ i : Nat, 64 * i ≤ T ∧ v = .int .i64 (64 * i : Nat) ∧ Bk wr H ((run p i).list.map U).toArray 54 ∧ Bk wr w.heap.size Z32 24 ∧ Own wr g T cap cur p ∧ Fr0 w wr) (fun v _ => T - (intOf v).toNat)
  case atStart => exact ⟨0, by omega, rfl, KH.out, KR.out, KO.out, KF.out⟩
  case round =>
    obtain ⟨i, hi, rfl, hbh, hbr, hown, hfr⟩ := hrel
    have LH := Lib.hid hbh
    have LR := Lib.hid hbr
    have LO := Lib.hid hown
    have LF := Lib.hid hfr
    have HI := Lib.hid hi
    clear hbh hbr hown hfr KH KR KO KF
    have HTC := HTc.out
    by_cases hlt : 64 * i < T
    rotate_left
    · obtain ⟨t, ht⟩ : ∃ t, 64 * i = t := ⟨_, rfl⟩
      rw [ht]
      have cz : decide (t < T) = false := decide_eq_false (by omega)
      have e64 : T / 64 = i := by omega
      have HSO : Hid (sumOf l = (List.range 32).map fun j => UInt8.ofNat (at0 (run p i).list (j / 4) / 2 ^ (24 - 8 * (j % 4)))) := Lib.hid (by rw [sumOf, HP.out, HT.out, e64])
      clear ht hi HTC e64 hlt
      have LRO := run_ok p i
      generalize run p i = r at *
      have HR8 : Hid (∀ k, k < 8 → (r.list.map U).toArray[k]? = some (.int .u32 (at0 r.list k : Nat))) := Lib.hid (fun k hk => list_cell r k hk)
      have HRL : Hid (∀ k, at0 r.list k < 4294967296) := Lib.hid (fun k => S8.at_lt LRO k)
      clear LRO
      generalize (r.list.map U).toArray = hc at *
      generalize r.list = rl at *
      go_wp2_with fail
      change Code.wp _ _ _ _ (wr.alloc (.cells Z32 24))
      have BH : Hid (Bk (wr.alloc (.cells Z32 24)) H hc 54) := Lib.hid (Bk.alloc LH.out _)
      have BS : Hid (Bk (wr.alloc (.cells Z32 24)) wr.heap.size Z32 24) := Lib.hid (Bk.new wr _)
      have BR : Hid (Bk (wr.alloc (.cells Z32 24)) w.heap.size Z32 24) := Lib.hid (Bk.alloc LR.out _)
      have BF : Hid (Fr0 w (wr.alloc (.cells Z32 24))) := Lib.hid (Fr.alloc LF.out _)
      have BL : Hid (w.heap.size < wr.heap.size ∧ H < wr.heap.size) := Lib.hid ⟨Bk.lt LR.out, Bk.lt LH.out⟩
      clear LH LR LO LF
      generalize hSS : wr.heap.size = SS at *
      clear hSS
      generalize wr.alloc (.cells Z32 24) = w6 at *
      go_loopw [9] (fun i wq => ∃ k : Nat, k ≤ 32 ∧ i = .int .i64 k ∧ Bk wq SS (lay Z32 0 (((sumOf l).map B).take k)) 24 ∧ Bk wq w.heap.size Z32 24 ∧ Bk wq H hc 54 ∧ Fr0 w wq) (fun i _ => 32 - (intOf i).toNat)
      case atStart => exact ⟨0, by omega, rfl, BS.out, BR.out, BH.out, BF.out⟩
      case round =>
        obtain ⟨k, hk, rfl, hbs, hbr, hbh, hfr⟩ := hrel
        have CS := Lib.hid hbs
        have CR := Lib.hid hbr
        have CH := Lib.hid hbh
        have CF := Lib.hid hfr
        clear hbs hbr hfr hbh BS BR BF BH
        by_cases hlt8 : k < 32
        rotate_left
        · have cz2 : decide ((k : Int) < 32) = false := decide_eq_false (by omega)
          have hlen : ((sumOf l).map B).length = 32 := by simp [sumOf_length]
          have LX : Hid (Bk wr SS ((sumOf l).map B).toArray 24) := Lib.hid (by
            have e : k = 32 := by omega
            subst e
            have := CS.out
            rwa [List.take_of_length_le (by rw [hlen]; exact Nat.le_refl _), lay_full _ _ (by rw [hlen]; rfl)] at this)
          have HI1 : Hid ((Tryd.prog.info? 24).map (·.size) = some (((sumOf l).map B).toArray.size)) := Lib.hid (by rw [info32a, List.size_toArray, hlen])
          have HI2 : Hid (Z32.size = ((sumOf l).map B).toArray.size) := Lib.hid (by rw [show (((sumOf l).map B).toArray).size = 32 by simp [sumOf_length]]; rfl)
          have HI3 : Hid (((sumOf l).map B).toArray.all (·.oneCell') = true) := Lib.hid (by simp [B, Value.oneCell'])
          clear CS hlen
          go_wp2_with (first | (refine wpList_load_row rfl 24 _ rfl SS rfl 24 ((sumOf l).map B).toArray (0, 0) _ LX.out Tryd.underlying24 rfl HI1.out ?_) | (refine wpList_store_row rfl 24 _ _ rfl w.heap.size ((sumOf l).map B).toArray rfl rfl 24 Z32 CR.out HI1.out HI2.out HI3.out ?_))
          refine fin_c w.heap.size 24 ((sumOf l).map B).toArray (by rfl) (by rfl) (by rfl) Tryd.underlying24 (by rfl) HI1.out (ArrKit.Bk.row CR.out _) ?_
          exact ⟨rfl, ArrKit.Fr.row CF.out _ _ (.inl (by omega))⟩
        · have cz2 : decide ((k : Int) < 32) = true := decide_eq_true (by omega)
          obtain ⟨q, hq⟩ : ∃ q, k / 4 = q := ⟨_, rfl⟩
          obtain ⟨e, he⟩ : ∃ e, 24 - 8 * (k % 4) = e := ⟨_, rfl⟩
          have y1 : (k : Int) / 4 = (q : Int) := by omega
          have y2 : 24 - 8 * ((k : Int) % 4) = (e : Int) := by omega
          have y3 : e < 32 := by omega
          have y4 : q < 8 := by omega
          have hcl : wr.cell? ⟨H, q, none⟩ = some (.int .u32 (at0 rl q : Nat)) := (CH.out.cell q).trans (HR8.out q y4)
          have HV : Hid ((sumOf l)[k]? = some (UInt8.ofNat (at0 rl q / 2 ^ e))) := Lib.hid (by
            rw [HSO.out, List.getElem?_map, List.getElem?_range hlt8, Option.map_some, hq, he])
          have hxl := HRL.out q
          generalize at0 rl q = x at *
          obtain ⟨o0, q0⟩ : ∃ v, wr.cell? ⟨SS, k, none⟩ = some v := ⟨_, (CS.out.cell k).trans (Array.getElem?_eq_getElem (by rw [lay_size]; exact hlt8))⟩
          have z0 := CS.out.free k
          clear hq he
          go_wp2_with fail
          have hb := BL.out
          refine ⟨⟨k + 1, by omega, by go_num, ?_, Bk.setOther CR.out _ _ (by simp; omega), Bk.setOther CH.out _ _ (by simp; omega), CF.out.set _ _ (.inl (by simp; omega))⟩, by simp [intOf]; omega⟩
          rw [lay_next k (by simp [sumOf_length]; omega) (.int .u8 ((x : Int) / 2 ^ e % 256)) (bval HV.out _ (by norm_cast))]
          exact Bk.set CS.out _ _
    · obtain ⟨t, ht⟩ : ∃ t, 64 * i = t := ⟨_, rfl⟩
      have HTT := Lib.hid ht
      rw [ht]
      have cz : decide (t < T) = true := decide_eq_true (by omega)
      have HLT := Lib.hid hlt
      clear hi ht hlt
      go_wp2_with fail
      change Code.wp _ _ _ _ (wr.alloc (.cells Z64 56))
      have BB : Hid (Bk (wr.alloc (.cells Z64 56)) wr.heap.size Z64 56) := Lib.hid (Bk.new wr _)
      have BH : Hid (Bk (wr.alloc (.cells Z64 56)) H ((run p i).list.map U).toArray 54) := Lib.hid (Bk.alloc LH.out _)
      have BR : Hid (Bk (wr.alloc (.cells Z64 56)) w.heap.size Z32 24) := Lib.hid (Bk.alloc LR.out _)
      have BO : Hid (Own (wr.alloc (.cells Z64 56)) g T cap cur p) := Lib.hid ⟨Bk.alloc LO.out.blk _, LO.out.len, LO.out.room, LO.out.size, LO.out.cap, LO.out.here⟩
      have BF : Hid (Fr0 w (wr.alloc (.cells Z64 56))) := Lib.hid (Fr.alloc LF.out _)
      have BL : Hid (w.heap.size < wr.heap.size ∧ H < wr.heap.size ∧ g < wr.heap.size) := Lib.hid ⟨Bk.lt LR.out, Bk.lt LH.out, Bk.lt LO.out.blk⟩
      have HBL : Hid ((blockAt p i).length = 64) := Lib.hid (by have h1 := HT.out; have h2 := HTT.out; have h3 := HLT.out; rw [blockAt, List.length_take, List.length_drop]; omega)
      clear LH LR LO LF
      generalize hSS : wr.heap.size = SS at *
      clear hSS
      generalize wr.alloc (.cells Z64 56) = w6 at *
      go_loopw [7] (fun v wq => ∃ k : Nat, k ≤ 64 ∧ v = .int .i64 k ∧ Bk wq SS (lay Z64 0 (((blockAt p i).map B).take k)) 56 ∧ Bk wq H ((run p i).list.map U).toArray 54 ∧ Bk wq w.heap.size Z32 24 ∧ Own wq g T cap cur p ∧ Fr0 w wq) (fun v _ => 64 - (intOf v).toNat)
      case atStart => exact ⟨0, by omega, rfl, BB.out, BH.out, BR.out, BO.out, BF.out⟩
      case round =>
        obtain ⟨k, hk, rfl, hbb, hbh, hbr, hbo, hfr⟩ := hrel
        have CB := Lib.hid hbb
        have CH := Lib.hid hbh
        have CR := Lib.hid hbr
        have CO := Lib.hid hbo
        have CF := Lib.hid hfr
        clear hbb hbh hbr hbo hfr BB BH BR BO BF
        by_cases hlt8 : k < 64
        rotate_left
        · have cz2 : decide ((k : Int) < 64) = false := decide_eq_false (by omega)
          have LX : Hid (Bk wr SS ((blockAt p i).map B).toArray 56) := Lib.hid (by
            have e : k = 64 := by omega
            subst e
            have hlen : ((blockAt p i).map B).length = 64 := by rw [List.length_map, HBL.out]
            have := CB.out
            rw [List.take_of_length_le (by rw [hlen]; exact Nat.le_refl _), lay_full _ _ (by rw [hlen]; rfl)] at this
            exact this)
          have MH : Hid (Bk wr H ((run p i).list.map U).toArray 54) := Lib.hid CH.out
          have MR : Hid (Bk wr w.heap.size Z32 24) := Lib.hid CR.out
          have MO : Hid (Own wr g T cap cur p) := Lib.hid CO.out
          have MF : Hid (Fr0 w wr) := Lib.hid CF.out
          have HIB : Hid ((Tryd.prog.info? 56).map (·.size) = some (((blockAt p i).map B).toArray.size)) := Lib.hid (by rw [List.size_toArray, List.length_map, HBL.out]; kernel_rfl)
          have HRS : Hid ((Tryd.prog.info? 54).map (·.size) = some ((run p i).list.map U).toArray.size) := Lib.hid (by rw [info8a]; simp [S8.list])
          clear CB CH CR CO CF
          have htT : t < T := by have h1 := HTT.out; have h2 := HLT.out; omega
          go_wp2_with (first | (refine wpList_load_row rfl 54 _ rfl H rfl 54 ((run p i).list.map U).toArray (0, 0) _ MH.out Tryd.underlying54 rfl HRS.out ?_) | (refine wpList_load_row rfl 56 _ rfl SS rfl 56 ((blockAt p i).map B).toArray (0, 0) _ LX.out Tryd.underlying56 rfl HIB.out ?_) | (go_at_call 36; (with_reducible refine (rstep_calls (run p i) (run_ok p i) (blockAt p i) _ HBL.out).mono ?_); rintro e w7 ⟨rfl, hf7⟩; have HF7 := Lib.hid hf7; have HH7 := Lib.hid (hf7.keep MH.out (fun h => h)); clear hf7) | (refine wpList_store_row rfl 54 _ _ rfl H ((stepOf (run p i) (blockAt p i)).list.map U).toArray rfl rfl 54 _ HH7.out (by simp only [List.size_toArray, List.length_map]; exact info8a) (by simp [S8.list]) (by simp [U, S8.list, Value.oneCell']) ?_))
          have hm := HTT.out
          have hlT := HLT.out
          have h6 := h64
          have hG := HG4.out
          have hb := BL.out
          refine ⟨⟨i + 1, by omega, congrArg (Value.int .i64) (by omega), ArrKit.Bk.row HH7.out _, ArrKit.Bk.rowOther (HF7.out.keep MR.out (fun h => h)) _ (by omega), ⟨ArrKit.Bk.rowOther (HF7.out.keep MO.out.blk (fun h => h)) _ (by omega), MO.out.len, MO.out.room, MO.out.size, MO.out.cap, MO.out.here⟩, ArrKit.Fr.row (MF.out.then0 HF7.out) _ _ (.inl (by omega))⟩, by simp [intOf]; omega⟩
        · have cz2 : decide ((k : Int) < 64) = true := decide_eq_true (by omega)
          have hTl : t + k < T := by have h1 := HTT.out; have h2 := HLT.out; omega
          have hob := CO.out.here (t + k) (by rw [CO.out.len]; exact hTl)
          have hpc : wr.cell? ⟨g, t + k, none⟩ = some (B (p[t + k]'(by rw [CO.out.len]; exact hTl))) := (CO.out.blk.cell (t + k)).trans hob
          have HV : Hid (∀ h : k < ((blockAt p i).map B).length, ((blockAt p i).map B)[k] = B (p[t + k]'(by rw [CO.out.len]; exact hTl))) := Lib.hid (fun h => by
            have h1 := HTT.out
            simp [blockAt, ← h1])
          clear hob
          obtain ⟨bv, hbv⟩ : ∃ bv, (p[t + k]'(by rw [CO.out.len]; exact hTl)).toNat = bv := ⟨_, rfl⟩
          have HBV : Hid (B (p[t + k]'(by rw [CO.out.len]; exact hTl)) = .int .u8 (bv : Int)) := Lib.hid (by rw [B_def, hbv])
          rw [HBV.out] at hpc
          have HV2 : Hid (∀ h : k < ((blockAt p i).map B).length, ((blockAt p i).map B)[k] = .int .u8 (bv : Int)) := Lib.hid (fun h => (HV.out h).trans HBV.out)
          clear hbv HBV HV
          obtain ⟨o0, q0⟩ : ∃ v, wr.cell? ⟨SS, k, none⟩ = some v := ⟨_, (CB.out.cell k).trans (Array.getElem?_eq_getElem (by rw [lay_size]; exact hlt8))⟩
          have z0 := CB.out.free k
          obtain ⟨tk, htk⟩ : ∃ tk, t + k = tk := ⟨_, rfl⟩
          have e1 : (t : Int) + k = (tk : Int) := by omega
          rw [htk] at hpc hTl
          have hT9 : tk ≤ 9223372036854775807 := by omega
          clear htk
          go_wp2_with fail
          have hb := BL.out
          refine ⟨⟨k + 1, by omega, by go_num, ?_, Bk.setOther CH.out _ _ (by simp; omega), Bk.setOther CR.out _ _ (by simp; omega), ⟨Bk.setOther CO.out.blk _ _ (by simp; omega), CO.out.len, CO.out.room, CO.out.size, CO.out.cap, CO.out.here⟩, CF.out.set _ _ (.inl (by simp; omega))⟩, by simp [intOf]; omega⟩
          rw [lay_next k (by rw [List.length_map, HBL.out]; exact hlt8) (.int .u8 (bv : Int)) (HV2.out _)]
          exact Bk.set CB.out _ _

end Go.Proofs.YtjkaenhopkigdaaDoor.ShaRSum
