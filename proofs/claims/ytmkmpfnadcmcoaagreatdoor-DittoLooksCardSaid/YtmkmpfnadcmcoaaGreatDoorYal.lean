/- The theorems that the claim uses, text behind text (part 12). -/
import Derived.Test.YtmkmpfnadcmcoaaGreatDoorYaa
import Derived.Test.YtmkmpfnadcmcoaaGreatDoorYaf
import Derived.Test.YtmkmpfnadcmcoaaGreatDoorYag
import Derived.Test.YtmkmpfnadcmcoaaGreatDoorYah
import Derived.Test.YtmkmpfnadcmcoaaGreatDoorYak
import Derived.Test.YtmkmpfnadcmcoaaGreatDoorProg
set_option maxRecDepth 100000
set_option maxHeartbeats 8000000
set_option linter.unusedVariables false
set_option linter.unusedSimpArgs false
namespace Go.Proofs.YtmkmpfnadcmcoaaGreatDoor.ShaRSum
open Go Go.RowKit K ShaRot ArrKit ShaSpread ShaStep ShaRef RefCopy ShaPad ShaSum HeldKit
def Z64 : Array Value := #[.int .u8 0, .int .u8 0, .int .u8 0, .int .u8 0, .int .u8 0, .int .u8 0, .int .u8 0, .int .u8 0, .int .u8 0, .int .u8 0, .int .u8 0, .int .u8 0, .int .u8 0, .int .u8 0, .int .u8 0, .int .u8 0, .int .u8 0, .int .u8 0, .int .u8 0, .int .u8 0, .int .u8 0, .int .u8 0, .int .u8 0, .int .u8 0, .int .u8 0, .int .u8 0, .int .u8 0, .int .u8 0, .int .u8 0, .int .u8 0, .int .u8 0, .int .u8 0, .int .u8 0, .int .u8 0, .int .u8 0, .int .u8 0, .int .u8 0, .int .u8 0, .int .u8 0, .int .u8 0, .int .u8 0, .int .u8 0, .int .u8 0, .int .u8 0, .int .u8 0, .int .u8 0, .int .u8 0, .int .u8 0, .int .u8 0, .int .u8 0, .int .u8 0, .int .u8 0, .int .u8 0, .int .u8 0, .int .u8 0, .int .u8 0, .int .u8 0, .int .u8 0, .int .u8 0, .int .u8 0, .int .u8 0, .int .u8 0, .int .u8 0, .int .u8 0]
theorem rsum_calls (a : Option Addr) (n c : Nat) (l : List UInt8) (w : World) (hl : l.length = n) (hrd : Rd w a l) (hn : n ≤ 140737488351232) :
  Calls Tryz.prog 75 #[.slice a n c] w fun e w' => e = .returned (.agg ((sumOf l).map B).toArray) ∧ Fr0 w w' := by
 have HL := jq7 hl
 have GF : Jq7 (Fr0 w (w.alloc (.cells Z32 29))) := jq7 (Fr.alloc (Fr.refl _ _) _)
 have GR : Jq7 (Bk (w.alloc (.cells Z32 29)) w.heap.size Z32 29) := jq7 (Bk.new w _)
 have GL := jq7 (hrd.later GF.o (fun _ _ h => h))
 clear hl hrd
 go_enter Tryz.func75, Tryz.ntmps75
 go_wp2_with (first | (go_at_call 91;change Calls _ _ _ (w.alloc (.cells Z32 29)) _;(with_reducible refine (rpad_calls a n c l _ HL.o GL.o hn).mono ?_);rintro e w3 ⟨g, cap, cur, rfl, hge, hown, hfr⟩;have HO := jq7 hown;have HF := jq7 hfr;have HGE := jq7 hge;clear hown hfr hge) | (go_at_call 92;(with_reducible refine (first_calls _).mono ?_);rintro e w4 ⟨rfl, hf4⟩;have HF4 := jq7 hf4;have HN5 : Jq7 (Bk (w4.alloc (.cells Z8 112)) w4.heap.size Z8 112) := jq7 (Bk.new _ _);clear hf4) | (refine wpList_store_row rfl 112 _ _ rfl w4.heap.size HB8 rfl rfl 112 Z8 HN5.o (by kernel_rfl) rfl (by kernel_rfl) ?_;change wpList _ _ _ _ _ ((w4.alloc (.cells Z8 112)).setRow w4.heap.size HB8)))
 have hg4 : w.heap.size < g ∧ g < w4.heap.size := by
  have h1 := HGE.o
  have h2 := Bk.lt (HF4.o.keep HO.o.blk (fun h => h))
  simp at h1
  omega
 have HG4 := jq7 hg4
 have hold : ∀ k o, w3.heap[k]? = some o → ((w4.alloc (.cells Z8 112)).setRow w4.heap.size HB8).heap[k]? = some o := fun k o h => ArrKit.Bk.rowOther (Bk.alloc (HF4.o.keep h (fun h => h)) _) _ (by have := Bk.lt (HF4.o.keep h (fun h => h));omega)
 have KH : Jq7 (Bk ((w4.alloc (.cells Z8 112)).setRow w4.heap.size HB8) w4.heap.size HB8 112) := jq7 (ArrKit.Bk.row HN5.o _)
 have KR : Jq7 (Bk ((w4.alloc (.cells Z8 112)).setRow w4.heap.size HB8) w.heap.size Z32 29) := jq7 (hold _ _ (HF.o.keep GR.o (fun h => h)))
 have KO : Jq7 (Own ((w4.alloc (.cells Z8 112)).setRow w4.heap.size HB8) g (padOf l).length cap cur (padOf l)) := jq7 ⟨hold _ _ HO.o.blk, HO.o.len, HO.o.room, HO.o.size, HO.o.cap, HO.o.here⟩
 have KF : Jq7 (Fr0 w ((w4.alloc (.cells Z8 112)).setRow w4.heap.size HB8)) := jq7 (ArrKit.Fr.row (Fr.alloc ((GF.o.then0 HF.o).then0 HF4.o) _) _ _ (.inl (by omega)))
 clear hold hg4 HN5 HF4 HF HO HGE GL GR GF
 generalize (w4.alloc (.cells Z8 112)).setRow w4.heap.size HB8 = w5 at *
 generalize w4.heap.size = H at *
 have HTc : Jq7 ((padOf l).length ≤ cap ∧ cap ≤ 9223372036854775807) := jq7 ⟨KO.o.room, KO.o.cap⟩
 generalize hp : padOf l = p at *
 generalize hT : p.length = T at *
 have HP := jq7 hp
 have HT := jq7 hT
 have h64 : T % 64 = 0 := by
  rw [← hT, ← hp, padOf_length, zs];omega
 have hTm : T ≤ 140737488351400 := by
  have := HL.o
  rw [← hT, ← hp, padOf_length, zs];omega
 clear hp hT
 go_loopw [5] (fun v wr => ∃ i : Nat, 64 * i ≤ T ∧ v = .int .i64 (64 * i : Nat) ∧ Bk wr H ((run p i).list.map U).toArray 112 ∧ Bk wr w.heap.size Z32 29 ∧ Own wr g T cap cur p ∧ Fr0 w wr) (fun v _ => T - (intOf v).toNat)
 case atStart => exact ⟨0, by omega, rfl, KH.o, KR.o, KO.o, KF.o⟩
 case round =>
  obtain ⟨i, hi, rfl, hbh, hbr, hown, hfr⟩ := hrel
  have LH := jq7 hbh
  have LR := jq7 hbr
  have LO := jq7 hown
  have LF := jq7 hfr
  have HI := jq7 hi
  clear hbh hbr hown hfr KH KR KO KF
  have HTC := HTc.o
  by_cases hlt : 64 * i < T
  rotate_left
  ·obtain ⟨t, ht⟩ : ∃ t, 64 * i = t := ⟨_, rfl⟩
   rw [ht]
   have cz : decide (t < T) = false := decide_eq_false (by omega)
   have e64 : T / 64 = i := by omega
   have HSO : Jq7 (sumOf l = (List.range 32).map fun j => UInt8.ofNat (at0 (run p i).list (j / 4) / 2 ^ (24 - 8 * (j % 4)))) := jq7 (by rw [sumOf, HP.o, HT.o, e64])
   clear ht hi HTC e64 hlt
   have LRO := run_ok p i
   generalize run p i = r at *
   have HR8 : Jq7 (∀ k, k < 8 → (r.list.map U).toArray[k]? = some (.int .u32 (at0 r.list k : Nat))) := jq7 (fun k hk => list_cell r k hk)
   have HRL : Jq7 (∀ k, at0 r.list k < 4294967296) := jq7 (fun k => S8.at_lt LRO k)
   clear LRO
   generalize (r.list.map U).toArray = hc at *
   generalize r.list = rl at *
   go_wp2_with fail
   change Code.wp _ _ _ _ (wr.alloc (.cells Z32 29))
   have BH : Jq7 (Bk (wr.alloc (.cells Z32 29)) H hc 112) := jq7 (Bk.alloc LH.o _)
   have BS : Jq7 (Bk (wr.alloc (.cells Z32 29)) wr.heap.size Z32 29) := jq7 (Bk.new wr _)
   have BR : Jq7 (Bk (wr.alloc (.cells Z32 29)) w.heap.size Z32 29) := jq7 (Bk.alloc LR.o _)
   have BF : Jq7 (Fr0 w (wr.alloc (.cells Z32 29))) := jq7 (Fr.alloc LF.o _)
   have BL : Jq7 (w.heap.size < wr.heap.size ∧ H < wr.heap.size) := jq7 ⟨Bk.lt LR.o, Bk.lt LH.o⟩
   clear LH LR LO LF
   generalize hSS : wr.heap.size = SS at *
   clear hSS
   generalize wr.alloc (.cells Z32 29) = w6 at *
   go_loopw [9] (fun i wq => ∃ k : Nat, k ≤ 32 ∧ i = .int .i64 k ∧ Bk wq SS (lay Z32 0 (((sumOf l).map B).take k)) 29 ∧ Bk wq w.heap.size Z32 29 ∧ Bk wq H hc 112 ∧ Fr0 w wq) (fun i _ => 32 - (intOf i).toNat)
   case atStart => exact ⟨0, by omega, rfl, BS.o, BR.o, BH.o, BF.o⟩
   case round =>
    obtain ⟨k, hk, rfl, hbs, hbr, hbh, hfr⟩ := hrel
    have CS := jq7 hbs
    have CR := jq7 hbr
    have CH := jq7 hbh
    have CF := jq7 hfr
    clear hbs hbr hfr hbh BS BR BF BH
    by_cases hlt8 : k < 32
    rotate_left
    ·have cz2 : decide ((k : Int) < 32) = false := decide_eq_false (by omega)
     have hlen : ((sumOf l).map B).length = 32 := by simp [sumOf_length]
     have LX : Jq7 (Bk wr SS ((sumOf l).map B).toArray 29) := jq7 (by
      have e : k = 32 := by omega
      subst e
      have := CS.o
      rwa [List.take_of_length_le (by rw [hlen];exact Nat.le_refl _), lay_full _ _ (by rw [hlen];rfl)] at this)
     have HI1 : Jq7 ((Tryz.prog.info? 29).map (·.size) = some (((sumOf l).map B).toArray.size)) := jq7 (by rw [info32a, List.size_toArray, hlen])
     have HI2 : Jq7 (Z32.size = ((sumOf l).map B).toArray.size) := jq7 (by rw [show (((sumOf l).map B).toArray).size = 32 by simp [sumOf_length]];rfl)
     have HI3 : Jq7 (((sumOf l).map B).toArray.all (·.oneCell') = true) := jq7 (by simp [B, Value.oneCell'])
     clear CS hlen
     go_wp2_with (first | (refine wpList_load_row rfl 29 _ rfl SS rfl 29 ((sumOf l).map B).toArray (0, 0) _ LX.o Tryz.underlying29 rfl HI1.o ?_) | (refine wpList_store_row rfl 29 _ _ rfl w.heap.size ((sumOf l).map B).toArray rfl rfl 29 Z32 CR.o HI1.o HI2.o HI3.o ?_))
     refine fin_c w.heap.size 29 ((sumOf l).map B).toArray (by rfl) (by rfl) (by rfl) Tryz.underlying29 (by rfl) HI1.o (ArrKit.Bk.row CR.o _) ?_
     exact ⟨rfl, ArrKit.Fr.row CF.o _ _ (.inl (by omega))⟩
    ·have cz2 : decide ((k : Int) < 32) = true := decide_eq_true (by omega)
     obtain ⟨q, hq⟩ : ∃ q, k / 4 = q := ⟨_, rfl⟩
     obtain ⟨e, he⟩ : ∃ e, 24 - 8 * (k % 4) = e := ⟨_, rfl⟩
     have y1 : (k : Int) / 4 = (q : Int) := by omega
     have y2 : 24 - 8 * ((k : Int) % 4) = (e : Int) := by omega
     have y3 : e < 32 := by omega
     have y4 : q < 8 := by omega
     have hcl : wr.cell? ⟨H, q, none⟩ = some (.int .u32 (at0 rl q : Nat)) := (CH.o.cell q).trans (HR8.o q y4)
     have HV : Jq7 ((sumOf l)[k]? = some (UInt8.ofNat (at0 rl q / 2 ^ e))) := jq7 (by
      rw [HSO.o, List.getElem?_map, List.getElem?_range hlt8, Option.map_some, hq, he])
     have hxl := HRL.o q
     generalize at0 rl q = x at *
     obtain ⟨o0, q0⟩ : ∃ v, wr.cell? ⟨SS, k, none⟩ = some v := ⟨_, (CS.o.cell k).trans (Array.getElem?_eq_getElem (by rw [lay_size];exact hlt8))⟩
     have z0 := CS.o.free k
     clear hq he
     go_wp2_with fail
     have hb := BL.o
     refine ⟨⟨k + 1, by omega, by go_num, ?_, Bk.setOther CR.o _ _ (by simp;omega), Bk.setOther CH.o _ _ (by simp;omega), CF.o.set _ _ (.inl (by simp;omega))⟩, by simp [intOf];omega⟩
     rw [lay_next k (by simp [sumOf_length];omega) (.int .u8 ((x : Int) / 2 ^ e % 256)) (bval HV.o _ (by norm_cast))]
     exact Bk.set CS.o _ _
  ·obtain ⟨t, ht⟩ : ∃ t, 64 * i = t := ⟨_, rfl⟩
   have HTT := jq7 ht
   rw [ht]
   have cz : decide (t < T) = true := decide_eq_true (by omega)
   have HLT := jq7 hlt
   clear hi ht hlt
   go_wp2_with fail
   change Code.wp _ _ _ _ (wr.alloc (.cells Z64 115))
   have BB : Jq7 (Bk (wr.alloc (.cells Z64 115)) wr.heap.size Z64 115) := jq7 (Bk.new wr _)
   have BH : Jq7 (Bk (wr.alloc (.cells Z64 115)) H ((run p i).list.map U).toArray 112) := jq7 (Bk.alloc LH.o _)
   have BR : Jq7 (Bk (wr.alloc (.cells Z64 115)) w.heap.size Z32 29) := jq7 (Bk.alloc LR.o _)
   have BO : Jq7 (Own (wr.alloc (.cells Z64 115)) g T cap cur p) := jq7 ⟨Bk.alloc LO.o.blk _, LO.o.len, LO.o.room, LO.o.size, LO.o.cap, LO.o.here⟩
   have BF : Jq7 (Fr0 w (wr.alloc (.cells Z64 115))) := jq7 (Fr.alloc LF.o _)
   have BL : Jq7 (w.heap.size < wr.heap.size ∧ H < wr.heap.size ∧ g < wr.heap.size) := jq7 ⟨Bk.lt LR.o, Bk.lt LH.o, Bk.lt LO.o.blk⟩
   have HBL : Jq7 ((blockAt p i).length = 64) := jq7 (by have h1 := HT.o;have h2 := HTT.o;have h3 := HLT.o;rw [blockAt, List.length_take, List.length_drop];omega)
   clear LH LR LO LF
   generalize hSS : wr.heap.size = SS at *
   clear hSS
   generalize wr.alloc (.cells Z64 115) = w6 at *
   go_loopw [7] (fun v wq => ∃ k : Nat, k ≤ 64 ∧ v = .int .i64 k ∧ Bk wq SS (lay Z64 0 (((blockAt p i).map B).take k)) 115 ∧ Bk wq H ((run p i).list.map U).toArray 112 ∧ Bk wq w.heap.size Z32 29 ∧ Own wq g T cap cur p ∧ Fr0 w wq) (fun v _ => 64 - (intOf v).toNat)
   case atStart => exact ⟨0, by omega, rfl, BB.o, BH.o, BR.o, BO.o, BF.o⟩
   case round =>
    obtain ⟨k, hk, rfl, hbb, hbh, hbr, hbo, hfr⟩ := hrel
    have CB := jq7 hbb
    have CH := jq7 hbh
    have CR := jq7 hbr
    have CO := jq7 hbo
    have CF := jq7 hfr
    clear hbb hbh hbr hbo hfr BB BH BR BO BF
    by_cases hlt8 : k < 64
    rotate_left
    ·have cz2 : decide ((k : Int) < 64) = false := decide_eq_false (by omega)
     have LX : Jq7 (Bk wr SS ((blockAt p i).map B).toArray 115) := jq7 (by
      have e : k = 64 := by omega
      subst e
      have hlen : ((blockAt p i).map B).length = 64 := by rw [List.length_map, HBL.o]
      have := CB.o
      rw [List.take_of_length_le (by rw [hlen];exact Nat.le_refl _), lay_full _ _ (by rw [hlen];rfl)] at this
      exact this)
     have MH : Jq7 (Bk wr H ((run p i).list.map U).toArray 112) := jq7 CH.o
     have MR : Jq7 (Bk wr w.heap.size Z32 29) := jq7 CR.o
     have MO : Jq7 (Own wr g T cap cur p) := jq7 CO.o
     have MF : Jq7 (Fr0 w wr) := jq7 CF.o
     have HIB : Jq7 ((Tryz.prog.info? 115).map (·.size) = some (((blockAt p i).map B).toArray.size)) := jq7 (by rw [List.size_toArray, List.length_map, HBL.o];kernel_rfl)
     have HRS : Jq7 ((Tryz.prog.info? 112).map (·.size) = some ((run p i).list.map U).toArray.size) := jq7 (by rw [info8a];simp [S8.list])
     clear CB CH CR CO CF
     have htT : t < T := by have h1 := HTT.o;have h2 := HLT.o;omega
     go_wp2_with (first | (refine wpList_load_row rfl 112 _ rfl H rfl 112 ((run p i).list.map U).toArray (0, 0) _ MH.o Tryz.underlying112 rfl HRS.o ?_) | (refine wpList_load_row rfl 115 _ rfl SS rfl 115 ((blockAt p i).map B).toArray (0, 0) _ LX.o Tryz.underlying115 rfl HIB.o ?_) | (go_at_call 93;(with_reducible refine (rstep_calls (run p i) (run_ok p i) (blockAt p i) _ HBL.o).mono ?_);rintro e w7 ⟨rfl, hf7⟩;have HF7 := jq7 hf7;have HH7 := kq0 hf7 MH;clear hf7) | (refine wpList_store_row rfl 112 _ _ rfl H ((stepOf (run p i) (blockAt p i)).list.map U).toArray rfl rfl 112 _ HH7.o (by simp only [List.size_toArray, List.length_map];exact info8a) (by simp [S8.list]) (by simp [U, S8.list, Value.oneCell']) ?_))
     have hm := HTT.o
     have hlT := HLT.o
     have h6 := h64
     have hG := HG4.o
     have hb := BL.o
     refine ⟨⟨i + 1, by omega, congrArg (Value.int .i64) (by omega), ArrKit.Bk.row HH7.o _, ArrKit.Bk.rowOther (HF7.o.keep MR.o (fun h => h)) _ (by omega), ⟨ArrKit.Bk.rowOther (HF7.o.keep MO.o.blk (fun h => h)) _ (by omega), MO.o.len, MO.o.room, MO.o.size, MO.o.cap, MO.o.here⟩, ArrKit.Fr.row (MF.o.then0 HF7.o) _ _ (.inl (by omega))⟩, by simp [intOf];omega⟩
    ·have cz2 : decide ((k : Int) < 64) = true := decide_eq_true (by omega)
     have hTl : t + k < T := by have h1 := HTT.o;have h2 := HLT.o;omega
     have hob := CO.o.here (t + k) (by rw [CO.o.len];exact hTl)
     have hpc : wr.cell? ⟨g, t + k, none⟩ = some (B (p[t + k]'(by rw [CO.o.len];exact hTl))) := (CO.o.blk.cell (t + k)).trans hob
     have HV : Jq7 (∀ h : k < ((blockAt p i).map B).length, ((blockAt p i).map B)[k] = B (p[t + k]'(by rw [CO.o.len];exact hTl))) := jq7 (fun h => by
      have h1 := HTT.o
      simp [blockAt, ← h1])
     clear hob
     obtain ⟨bv, hbv⟩ : ∃ bv, (p[t + k]'(by rw [CO.o.len];exact hTl)).toNat = bv := ⟨_, rfl⟩
     have HBV : Jq7 (B (p[t + k]'(by rw [CO.o.len];exact hTl)) = .int .u8 (bv : Int)) := jq7 (by rw [B_def, hbv])
     rw [HBV.o] at hpc
     have HV2 : Jq7 (∀ h : k < ((blockAt p i).map B).length, ((blockAt p i).map B)[k] = .int .u8 (bv : Int)) := jq7 (fun h => (HV.o h).trans HBV.o)
     clear hbv HBV HV
     obtain ⟨o0, q0⟩ : ∃ v, wr.cell? ⟨SS, k, none⟩ = some v := ⟨_, (CB.o.cell k).trans (Array.getElem?_eq_getElem (by rw [lay_size];exact hlt8))⟩
     have z0 := CB.o.free k
     obtain ⟨tk, htk⟩ : ∃ tk, t + k = tk := ⟨_, rfl⟩
     have e1 : (t : Int) + k = (tk : Int) := by omega
     rw [htk] at hpc hTl
     have hT9 : tk ≤ 9223372036854775807 := by omega
     clear htk
     go_wp2_with fail
     have hb := BL.o
     refine ⟨⟨k + 1, by omega, by go_num, ?_, Bk.setOther CH.o _ _ (by simp;omega), Bk.setOther CR.o _ _ (by simp;omega), ⟨Bk.setOther CO.o.blk _ _ (by simp;omega), CO.o.len, CO.o.room, CO.o.size, CO.o.cap, CO.o.here⟩, CF.o.set _ _ (.inl (by simp;omega))⟩, by simp [intOf];omega⟩
     rw [lay_next k (by rw [List.length_map, HBL.o];exact hlt8) (.int .u8 (bv : Int)) (HV2.o _)]
     exact Bk.set CB.o _ _

end Go.Proofs.YtmkmpfnadcmcoaaGreatDoor.ShaRSum
namespace Go.Proofs.YtmkmpfnadcmcoaaGreatDoor.RmTab
open Go Go.RowKit K EqKit ArrKit HeldKit GKit GRow DiskKit RmKit MapKit RmRight DiskRRead ShaRot ShaSpread ShaStep ShaPlain ShaRef WordPut ShaSum
def spl (l : List UInt8) (p : Nat) (m : List UInt8) : List UInt8 := l.take p ++ (m ++ l.drop (p + m.length))
theorem lay_spl (l m : List UInt8) (p : Nat) (h : p + m.length ≤ l.length) : lay (l.map B).toArray p (m.map B) = ((spl l p m).map B).toArray := by
 apply Array.ext_getElem?
 intro i
 rw [lay_get, List.length_map, List.size_toArray, List.length_map, List.getElem?_toArray, List.getElem?_toArray, List.getElem?_map, List.getElem?_map, List.getElem?_map, spl, List.getElem?_append, List.length_take, Nat.min_eq_left (by omega)]
 by_cases h1 : i < p
 ·rw [if_neg (by omega), if_pos h1, List.getElem?_take, if_pos h1]
 ·rw [if_neg h1, List.getElem?_append]
  by_cases h2 : i - p < m.length
  ·rw [if_pos (by omega), if_pos h2]
  ·rw [if_neg (by omega), if_neg h2, List.getElem?_drop, show p + m.length + (i - p - m.length) = i by omega]
theorem spl_end (A Z m : List UInt8) {p : Nat} (hp : A.length = p) : spl (A ++ Z) p m = A ++ m ++ Z.drop m.length := by
 subst hp
 simp [spl, List.append_assoc]
def pb (p : Int × Int) : List UInt8 := le p.1.toNat 2 ++ le p.2.toNat 2
theorem pb_len (p : Int × Int) : (pb p).length = 4 := by simp [pb]
def hd0 (m : Rm) : List UInt8 := [109] ++ le m.gen.toNat 8 ++ [UInt8.ofNat m.ps.length]
theorem hd0_len (m : Rm) : (hd0 m).length = 10 := by simp [hd0]
def pre (m : Rm) (i : Nat) : List UInt8 := hd0 m ++ (m.ps.take i).flatMap pb
theorem flat_pb : ∀ l : List (Int × Int), (l.flatMap pb).length = 4 * l.length := fun l => by
 induction l with
 | nil => rfl
 | cons a r ih => rw [List.flatMap_cons, List.length_append, ih, pb_len, List.length_cons];omega
theorem pre_len (m : Rm) {i : Nat} (h : i ≤ m.ps.length) : (pre m i).length = 10 + 4 * i := by
 rw [pre, List.length_append, hd0_len, flat_pb, List.length_take, Nat.min_eq_left h]
theorem pre_succ (m : Rm) {i : Nat} (h : i < m.ps.length) : pre m (i + 1) = pre m i ++ (le m.ps[i].1.toNat 2 ++ le m.ps[i].2.toNat 2) := by
 rw [pre, pre, List.take_succ_eq_append_getElem h, List.flatMap_append, List.append_assoc]
 congr 1
def bodyB (m : Rm) (i : Nat) : List UInt8 := pre m i ++ List.replicate (118 - 4 * i) 0
theorem bodyB_len (m : Rm) {i : Nat} (h : i ≤ m.ps.length) (h2 : m.ps.length ≤ 20) : (bodyB m i).length = 128 := by
 rw [bodyB, List.length_append, pre_len m h, List.length_replicate];omega
def halfB (m : Rm) (i : Nat) (f : Int) : List UInt8 := pre m i ++ le f.toNat 2 ++ List.replicate (116 - 4 * i) 0
theorem halfB_len (m : Rm) {i : Nat} (f : Int) (h : i ≤ m.ps.length) (h2 : m.ps.length ≤ 20) : (halfB m i f).length = 128 := by
 rw [halfB, List.length_append, List.length_append, pre_len m h, List.length_replicate, le_length];omega
theorem step1 (m : Rm) {i : Nat} (f : Int) (h : i ≤ m.ps.length) : spl (bodyB m i) (10 + 4 * i) (le f.toNat 2) = halfB m i f := by
 rw [bodyB, spl_end _ _ _ (pre_len m h), halfB, le_length, List.drop_replicate]
 congr 2
 omega
theorem step2 (m : Rm) {i : Nat} (h : i < m.ps.length) : spl (halfB m i m.ps[i].1) (12 + 4 * i) (le m.ps[i].2.toNat 2) = bodyB m (i + 1) := by
 rw [halfB, spl_end _ _ _ (by rw [List.length_append, pre_len m (Nat.le_of_lt h), le_length];omega), bodyB, pre_succ m h, le_length, List.drop_replicate, List.append_assoc (pre m i)]
 congr 2
 omega
def L0 : List UInt8 := [109] ++ List.replicate 127 0
def L1 (m : Rm) : List UInt8 := [109] ++ le m.gen.toNat 8 ++ List.replicate 119 0
theorem L0_len : L0.length = 128 := by simp [L0]
theorem L1_len (m : Rm) : (L1 m).length = 128 := by simp [L1]
theorem stepGen (m : Rm) : spl L0 1 (le m.gen.toNat 8) = L1 m := by
 rw [L0, spl_end [109] _ _ (p := 1) rfl, L1, le_length, List.drop_replicate]
theorem stepLen (m : Rm) : spl (L1 m) 9 [UInt8.ofNat m.ps.length] = bodyB m 0 := by
 rw [L1, spl_end _ _ _ (by simp), bodyB, pre, hd0]
 simp
def headB (m : Rm) : List UInt8 := (bodyB m m.ps.length).take 96
theorem headB_len (m : Rm) (h2 : m.ps.length ≤ 20) : (headB m).length = 96 := by
 rw [headB, List.length_take, bodyB_len m (Nat.le_refl _) h2];rfl
def tabL (m : Rm) : List UInt8 := headB m ++ sumOf (headB m)
theorem tabL_len (m : Rm) (h2 : m.ps.length ≤ 20) : (tabL m).length = 128 := by
 rw [tabL, List.length_append, headB_len m h2, sumOf_length]
theorem step_sum (m : Rm) (h2 : m.ps.length ≤ 20) : spl (bodyB m m.ps.length) 96 (sumOf (headB m)) = tabL m := by
 rw [spl, sumOf_length, List.drop_eq_nil_of_le (by rw [bodyB_len m (Nat.le_refl _) h2];omega), List.append_nil];rfl
def tabX (m : Rm) (s : Int) : List UInt8 := if tabB m s = true then tabL m else Z128
def tabE (m : Rm) (s : Int) : Int := if tabB m s = true then 0 else 1
theorem tab_parts {m : Rm} {s : Int} (h : tabB m s = true) : half s ≠ 0 ∧ 0 ≤ m.gen ∧ m.gen ≤ 4611686018427387904 ∧ m.ps.length ≤ 20 ∧ ∀ i (hi : i < m.ps.length), stepB (half s) s m.ps i = true := by
 unfold tabB at h
 simp only [Bool.and_eq_true, decide_eq_true_eq, List.all_eq_true, List.mem_range] at h
 exact ⟨h.1.1.1.1, h.1.1.1.2, h.1.1.2, h.1.2, fun i hi => h.2 i hi⟩
theorem tab_pair {m : Rm} {s : Int} (h : tabB m s = true) {i : Nat} (hi : i < m.ps.length) : 0 ≤ m.ps[i].1 ∧ m.ps[i].1 < 4096 ∧ 0 ≤ m.ps[i].2 ∧ m.ps[i].2 < 4096 ∧ 2 * half s ≤ m.ps[i].2 ∧ m.ps[i].2 < s ∧ usableB m.ps[i].1 (half s) = true := by
 obtain ⟨h1, -, -, -, h5⟩ := tab_parts h
 have := h5 i hi
 have hl := half_lo h1
 have hg : m.ps.getD i (0, 0) = m.ps[i] := by rw [List.getD_eq_getElem?_getD, List.getElem?_eq_getElem hi];rfl
 unfold stepB pok at this
 rw [hg] at this
 simp only [Bool.and_eq_true, decide_eq_true_eq] at this
 have hu := this.1.1.1.1
 have hu2 := hu
 unfold usableB at hu
 simp only [Bool.and_eq_true, decide_eq_true_eq] at hu
 refine ⟨by omega, by omega, by omega, by omega, by omega, by omega, hu2⟩
theorem tabX_len (m : Rm) (s : Int) : (tabX m s).length = 128 := by
 unfold tabX
 split
 ·rename_i h;exact tabL_len m (tab_parts h).2.2.2.1
 ·simp [Z128]
structure Sh (w : World) : Prop where
 k : ∃ t, Bk w 1 KC t
 b : ∃ t, Bk w 0 HB8 t
theorem Sh.keep {S : Nat → Prop} {w w' : World} (h : Sh w) (f : Fr S w w') (h1 : ¬ S 1) (h0 : ¬ S 0) : Sh w' := by
 obtain ⟨⟨t, hk⟩, ⟨u, hb⟩⟩ := h
 exact ⟨⟨t, f.keep hk h1⟩, ⟨u, f.keep hb h0⟩⟩
theorem Sh.keep0 {w w' : World} (h : Sh w) (f : Fr0 w w') : Sh w' := h.keep f (fun h => h) (fun h => h)
theorem KC_size : KC.size = 64 := by simp [KC, ShaStep.cubes]
theorem HB8_size : HB8.size = 8 := by rfl
theorem Sh.ne {w : World} (h : Sh w) {p : Nat} {cs : Array Value} {t : TypeId} (hb : Bk w p cs t) (h8 : cs.size ≠ 8) (h64 : cs.size ≠ 64) : p ≠ 1 ∧ p ≠ 0 := by
 obtain ⟨⟨t1, hk⟩, ⟨u, hg⟩⟩ := h
 constructor
 ·rintro rfl
  have := Option.some.inj (hb.symm.trans hk)
  injection this with e1
  rw [e1, KC_size] at h64
  exact h64 rfl
 ·rintro rfl
  have := Option.some.inj (hb.symm.trans hg)
  injection this with e1
  rw [e1, HB8_size] at h8
  exact h8 rfl
theorem wpList_copy_run {P : Program} (w : World) {ops : Array Oper} {rest : List Oper} {o : Oper} {a : Act} {Q : Exit → Act → World → Prop} (hgd : o.guard = none) (d s : Operand) (t t' : TypeId)
  (ho : o.op = .call { callee := .builtin .copy, args := #[d, s], argTypes := #[t, t'] }) (v u : Value) (hd : a.eval d = v) (hs : a.eval s = u) {v' : Value} {w' : World}
  (hr : (Builtin.copy_ #[t, t'] o.type #[v, u]).run P w = .ok v' w') (h : wpList P ops Q rest (a.put o.dst v') w') : wpList P ops Q (o :: rest) a w :=
 wpList_plain hgd fun _ hK => by
  unfold Oper.wp execOp
  simp only [ho, resolve, invoke, builtin, Sem.run_bind, Sem.run_pure, Result.andThen_ok, List.map_toArray, List.map_cons, List.map_nil, hd, hs, hr]
  exact hK _ _ h

end Go.Proofs.YtmkmpfnadcmcoaaGreatDoor.RmTab
namespace Go.Proofs.YtmkmpfnadcmcoaaGreatDoor.PtrKit
open Go Go.RowKit K EqKit HeldKit
def PC (a b : Int) (s : List UInt8) : List Value := .int .i64 a :: .int .i64 b :: s.map B
theorem PC_length (a b : Int) (s : List UInt8) : (PC a b s).length = s.length + 2 := by simp [PC]
theorem cells_p : Tryz.prog.cellsOf 31 = 34 := by kernel_rfl
theorem cells_i : Tryz.prog.cellsOf 3 = 1 := by kernel_rfl
theorem cells_s : Tryz.prog.cellsOf 29 = 32 := by kernel_rfl
theorem cells_u : Tryz.prog.cellsOf 5 = 1 := by kernel_rfl
theorem lits_int {P : Program} {t : TypeId} {k : IntKind} {n : Int} (d : Nat) (ht : P.underlying t = some (.int k)) (hw : (Lit.int k n).wf = true) : P.keyLits (d + 1) t [.int k n] = some [Lit.int k n] := by
 unfold Program.keyLits
 rw [ht]
 simp [hw]
theorem lits_bytes (d : Nat) (s : List UInt8) (hs : s.length = 32) : Tryz.prog.keyLits (d + 2) 29 (s.map B) = some (s.map fun v => Lit.int .u8 (v.toNat : Int)) := by
 have h := lits_row (k := .u8) d Tryz.underlying29 Tryz.underlying5 cells_u cells_s (s.map fun v => (v.toNat : Int)) (by simpa using hs) (fun z hz => by
  obtain ⟨v, -, rfl⟩ := List.mem_map.1 hz
  exact wf_u8 v)
 rw [List.map_map, List.map_map] at h
 exact h
theorem lits_ptr (a b : Int) (s : List UInt8) (hs : s.length = 32) (ha : (Lit.int .i64 a).wf = true) (hb : (Lit.int .i64 b).wf = true) : Tryz.prog.keyLits 3 31 (PC a b s) = some (Lit.int .i64 a :: Lit.int .i64 b :: s.map fun v => Lit.int .u8 (v.toNat : Int)) := by
 unfold Program.keyLits
 rw [Tryz.underlying31]
 have h32 : (s.map B).take 32 = s.map B := List.take_of_length_le (by simp;omega)
 simp [PC, cells_p, cells_i, cells_s, hs, h32, lits_int 1 Tryz.underlying3 ha, lits_int 1 Tryz.underlying3 hb, lits_bytes 0 s hs]
theorem guard_p : Tryz.prog.eqGuardType Tryz.prog.depth 31 = false := by kernel_rfl
theorem eq_ptr (a b a' b' : Int) (s s' : List UInt8) (hs : s.length = 32) (hs' : s'.length = 32) (ha : (Lit.int .i64 a).wf = true) (hb : (Lit.int .i64 b).wf = true) (ha' : (Lit.int .i64 a').wf = true) (hb' : (Lit.int .i64 b').wf = true) (W : World) :
  (Op.equalIn 10000 31 (.agg (PC a b s).toArray) (.agg (PC a' b' s').toArray)).run Tryz.prog W = .ok (decide (a = a' ∧ b = b' ∧ s = s')) W := by
 obtain ⟨r, hr, hiff⟩ := run_equalIn_deep 9997 3 31 (by kernel_rfl) W 3 3 (.agg (PC a b s).toArray) (.agg (PC a' b' s').toArray) _ _ (by simp [Value.formed, Tryz.underlying31, cells_p, PC, hs]) (by simp [Value.formed, Tryz.underlying31, cells_p, PC, hs']) (lits_ptr a b s hs ha hb) (lits_ptr a' b' s' hs' ha' hb')
 rw [show (10000 : Nat) = 9997 + 3 from rfl, hr]
 congr 1
 rw [Bool.eq_iff_iff, hiff, decide_eq_true_eq]
 constructor
 ·intro h
  simp only [List.cons.injEq, Lit.int.injEq, true_and] at h
  exact ⟨h.1, h.2.1, map_inj (fun x y e => UInt8.toNat_inj.1 (by simp only [Lit.int.injEq, true_and] at e;exact Int.ofNat.inj e)) h.2.2⟩
 ·rintro ⟨rfl, rfl, rfl⟩;rfl

end Go.Proofs.YtmkmpfnadcmcoaaGreatDoor.PtrKit
