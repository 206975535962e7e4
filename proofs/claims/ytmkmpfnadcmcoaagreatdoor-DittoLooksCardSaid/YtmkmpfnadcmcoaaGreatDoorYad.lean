/- The theorems that the claim uses, text behind text (part 4). -/
import Derived.Test.YtmkmpfnadcmcoaaGreatDoorYaa
import Derived.Test.YtmkmpfnadcmcoaaGreatDoorYab
import Derived.Test.YtmkmpfnadcmcoaaGreatDoorYac
import Derived.Maps.OwnSet
import Derived.Maps.OwnOps
import Derived.Test.YtmkmpfnadcmcoaaGreatDoorProg
set_option maxRecDepth 100000
set_option maxHeartbeats 8000000
set_option linter.unusedVariables false
set_option linter.unusedSimpArgs false
namespace Go.Proofs.YtmkmpfnadcmcoaaGreatDoor.DiskLay
open Go Go.RowKit K EqKit ArrKit HeldKit GKit GRow DiskKit DiskAsk DiskForm DiskAct DiskNew DiskCopy
abbrev lyc (cs : Array Value) (o : Nat) (vs : List Value) : Array Value := K.lay cs o vs
theorem laid_len (S : List Sec) (C : List Wri) (keep : Nat → Bool) (k : Nat) : (laid S C keep k).length = S.length := by
 induction k with
 | zero => rfl
 | succ k ih =>
  simp only [laid]
  split
  ·split
   ·rw [List.length_set];exact ih
   ·exact ih
  ·exact ih
theorem laid_succ {S : List Sec} {C : List Wri} {keep : Nat → Bool} {k : Nat} (h : k < C.length) : laid S C keep (k + 1) = if keep k then (laid S C keep k).set C[k].pos.toNat { (laid S C keep k).getD C[k].pos.toNat Zs with data := C[k].data, nr := false } else laid S C keep k := by
 show (match C[k]? with | some x => _ | none => _) = _
 rw [List.getElem?_eq_getElem h]
theorem laid_over {S : List Sec} {C : List Wri} {keep : Nat → Bool} {k : Nat} (h : C.length ≤ k) : laid S C keep (k + 1) = laid S C keep k := by
 show (match C[k]? with | some x => _ | none => _) = _
 rw [List.getElem?_eq_none h]
theorem laid_ok {S : List Sec} {C : List Wri} {keep : Nat → Bool} (hS : ∀ x ∈ S, x.ok) (hC : ∀ x ∈ C, x.ok) (k : Nat) : ∀ x ∈ laid S C keep k, x.ok := by
 induction k with
 | zero => exact hS
 | succ k ih =>
  by_cases h : k < C.length
  ·rw [laid_succ h]
   split
   ·intro x hx
    rcases List.mem_or_eq_of_mem_set hx with hx | rfl
    ·exact ih x hx
    ·exact (hC _ (List.getElem_mem h)).len
   ·exact ih
  ·rw [laid_over (by omega)]
   exact ih
theorem layD_ok {d : Dk} (h : d.ok) (keep : Nat → Bool) : (layD d keep).ok := ⟨laid_ok h.s h.c _, fun x hx => by simp [layD] at hx, h.f⟩
theorem OwnS.lay1 {w w' : World} {g cap : Nat} {cur : Array Value} {l : List Sec} (h : OwnS w g cap cur l) (hok : ∀ x ∈ l, x.ok) {q : Nat} (hq : q < l.length) (x : Wri) (hx : x.ok)
  (hb : Bk w' g ((lyc cur (q * 130) (x.data.map B)).setIfInBounds (q * 130 + 128) (.bool false)) 66) : OwnS w' g cap ((lyc cur (q * 130) (x.data.map B)).setIfInBounds (q * 130 + 128) (.bool false)) (l.set q { l.getD q Zs with data := x.data, nr := false }) := by
 have hl := hx.len
 have hsz : q * 130 + 130 ≤ cur.size := by rw [h.size];have := h.room;omega
 have hold : l.getD q Zs = l[q] := by rw [List.getD_eq_getElem?_getD, List.getElem?_eq_getElem hq];rfl
 refine OwnG.set h (secs_len hok) hq _ (Sec.len (show (Sec.mk x.data false (l.getD q Zs).nw).ok from hl)) w' _ hb (by rw [Array.size_setIfInBounds, lay_size]) (fun j u hj => ?_) (fun m hm => ?_)
 ·have hj' : j < 130 := by
   have := (List.getElem?_eq_some_iff.1 hj).1
   rwa [Sec.len (show (Sec.mk x.data false (l.getD q Zs).nw).ok from hl)] at this
  rw [Array.getElem?_setIfInBounds, lay_size]
  by_cases h1 : j < 128
  ·rw [if_neg (by omega), lay_get, List.length_map, if_pos (by omega), show q * 130 + j - q * 130 = j by omega]
   rw [Sec.data_at (show (Sec.mk x.data false (l.getD q Zs).nw).ok from hl) h1] at hj
   exact hj
  ·rcases (show j = 128 ∨ j = 129 by omega) with rfl | rfl
   ·rw [if_pos rfl, if_pos (by omega)]
    rw [Sec.nr_at (show (Sec.mk x.data false (l.getD q Zs).nw).ok from hl)] at hj
    exact hj
   ·rw [if_neg (by omega), lay_get, List.length_map, if_neg (by omega)]
    rw [Sec.nw_at (show (Sec.mk x.data false (l.getD q Zs).nw).ok from hl)] at hj
    refine h.here q hq 129 u ?_
    rw [Sec.nw_at (hok _ (List.getElem_mem hq)), ← hold]
    exact hj
 ·rw [Array.getElem?_setIfInBounds, if_neg (by omega), lay_get, List.length_map, if_neg (by omega)]
def Laid (w w' : World) (p : Nat) (d : Dk) : Prop := (∃ sa sc, DAt w' p d sa sc none 0) ∧ Fr (fun i => i = p) w w'
theorem RdC.past {w w1 : World} {ca : Option Addr} {l : List Wri} (h : RdC w ca l) (hok : ∀ x ∈ l, x.ok) {p : Nat} {cs : Array Value} (f : Fr (fun i => i = p) w w1) (hb : Bk w p cs 25) (hn : ∀ (j : Nat) (x : Value), cs[j]? = some x → ∀ v : UInt8, x ≠ B v) : RdC w1 ca l :=
 RdG.later h f (fun a e hl => by subst e;exact RdC.apart h hl hok hb hn)

theorem lay_f_empty (p : Nat) (d : Dk) (sa : Option Addr) (sc : Nat) (ca : Option Addr) (cc : Nat) (keep : Nat → Bool) (w : World) (hok : d.ok) (hv : DAt w p d sa sc ca cc) (h0 : d.C = []) : Calls Tryz.prog 34 #[.pointer (some ⟨p, 0, none⟩), .func (.func 35) #[] #[]] w fun e w' => (∃ v, e = .returned v) ∧ Laid w w' p (layD d keep) := by
 have HV := jq7 hv
 have HOK := jq7 hok
 clear hv hok
 obtain ⟨SS, CC, ff, dd⟩ := d
 subst h0
 have q1 : w.cell? ⟨p, 1, none⟩ = some (.slice ca 0 cc) := Bk.cell HV.o.blk 1
 have f1 := Bk.free HV.o.blk 1
 go_enter Tryz.func34, Tryz.ntmps34
 go_wp2
 go_loopw [25] (fun i wr => i = .int .i64 0 ∧ wr = w) (fun _ _ => 0)
 case atStart => exact ⟨rfl, rfl⟩
 case round =>
  obtain ⟨rfl, rfl⟩ := hrel
  go_wp2
  go_end0
  refine ⟨⟨_, rfl⟩, ⟨sa, sc, Bk.set HV.o.blk 1 _, ?_⟩, Fr.set1 _ _ _ _⟩
  have := HV.o.v.past HOK.o (Fr.set1 _ p 1 (.slice none 0 0)) HV.o.blk (dval_no _ _ _ _ _)
  exact ⟨this.rs, RdG.nil _ _, this.sn, this.sm, Nat.le_refl _, by omega⟩

def ZWA : Array Value := (Wri.mk 0 Z128).cells.toArray
theorem formed_parts {d : Dk} (h : formedB d = true) : 1 ≤ d.S.length ∧ d.S.length ≤ 4096 ∧ ∀ k (h : k < d.C.length), 0 ≤ d.C[k].pos ∧ d.C[k].pos < d.S.length := by
 rw [formedB, Bool.and_eq_true, decide_eq_true_eq] at h
 refine ⟨h.2.1, h.2.2, fun k hk => ?_⟩
 have := List.all_eq_true.1 h.1 _ (List.getElem_mem hk)
 exact thereB_true.1 this

theorem lay_f_some (p : Nat) (d : Dk) (sa : Option Addr) (sc : Nat) (ca : Option Addr) (cc : Nat) (keep : Nat → Bool) (w : World) (hok : d.ok) (hv : DAt w p d sa sc ca cc) (h0 : 0 < d.C.length) (hr : formedB d = true)
  (hk : ∀ (i : Nat) (W : World), i < d.C.length → Fr (fun i => i = p) w W → Calls Tryz.prog 35 #[.int .i64 i] W fun e w' => e = .returned (.bool (keep i)) ∧ Fr0 W w') : Calls Tryz.prog 34 #[.pointer (some ⟨p, 0, none⟩), .func (.func 35) #[] #[]] w fun e w' => (∃ v, e = .returned v) ∧ Laid w w' p (layD d keep) := by
 have hfm := formed_parts hr
 have HCL := jq7 (clone_calls sa sc d.S w hv.v.rs hok.s (by omega) (by omega))
 have HK := jq7 hk
 have HV := jq7 hv
 have HOK := jq7 hok
 have hcn := hv.v.cn
 have hcm := hv.v.cm
 have hn1 := hfm.1
 have hn2 := hfm.2.1
 have HPOS := jq7 hfm.2.2
 have hpw : p < w.heap.size := Bk.lt hv.blk
 clear hk hv hok hr hfm
 have hzw : ∀ W, (zeroValue 68).run Tryz.prog W = .ok (.agg ZWA) W := by intro W;kernel_rfl
 obtain ⟨SS, CC, ff, dd⟩ := d
 dsimp only at *
 have q0 : w.cell? ⟨p, 0, none⟩ = some (.slice sa SS.length sc) := Bk.cell HV.o.blk 0
 have q1 : w.cell? ⟨p, 1, none⟩ = some (.slice ca CC.length cc) := Bk.cell HV.o.blk 1
 have f1 := Bk.free HV.o.blk 1
 have f0 := Bk.free HV.o.blk 0
 go_enter Tryz.func34, Tryz.ntmps34
 go_wp2_with (go_at_call 36;(with_reducible refine HCL.o.mono ?_);rintro e w1 ⟨g, cap, cur, rfl, hge, hown, hfr⟩;have hp1 : p < w1.heap.size := hfr.lt hpw;have p0 : w1.cell? ⟨p, 0, none⟩ = some (.slice sa SS.length sc) := (hfr.cell p 0 hpw (fun h => h)).trans q0;have p1 : w1.cell? ⟨p, 1, none⟩ = some (.slice ca CC.length cc) := (hfr.cell p 1 hpw (fun h => h)).trans q1;have g0 : w1.frozen? ⟨p, 0, none⟩ = false := (hfr.froz p 0 hpw (fun h => h)).trans f0;have g1 : w1.frozen? ⟨p, 1, none⟩ = false := (hfr.froz p 1 hpw (fun h => h)).trans f1;have HB1 : Jq7 (Bk (w1.setCell ⟨p, 0, none⟩ (.slice (some ⟨g, 0, none⟩) SS.length cap)) p (DC (.slice (some ⟨g, 0, none⟩) SS.length cap) (.slice ca CC.length cc) ff dd) 25) := jq7 (Bk.set (hfr.keep HV.o.blk (fun h => h)) 0 _);have HO1 : Jq7 (OwnS (w1.setCell ⟨p, 0, none⟩ (.slice (some ⟨g, 0, none⟩) SS.length cap)) g cap cur SS) := jq7 (OwnG.keep hown (Fr.set1 _ _ _ _) (by omega));have HF1 : Jq7 (Fr (fun i => i = p) w (w1.setCell ⟨p, 0, none⟩ (.slice (some ⟨g, 0, none⟩) SS.length cap))) := jq7 (Fr.set (hfr.weaken (fun _ _ h => h.elim)) _ _ (.inr rfl));have HGE := jq7 hge;clear hfr hown hge)
 clear q0 q1 f0 f1 p0 p1 g0 g1
 generalize hw0 : w1.setCell _ _ = w0 at *
 clear hw0 hp1
 go_loopw [25] (fun i wr => ∃ k cur, k ≤ CC.length ∧ i = .int .i64 (k : Nat) ∧ OwnS wr g cap cur (laid SS CC keep k) ∧ Bk wr p (DC (.slice (some ⟨g, 0, none⟩) SS.length cap) (.slice ca CC.length cc) ff dd) 25 ∧ Fr (fun i => i = p) w wr) (fun i _ => CC.length - (intOf i).toNat)
 case atStart => exact ⟨0, cur, Nat.zero_le _, rfl, HO1.o, HB1.o, HF1.o⟩
 case round =>
  clear HB1 HO1 HF1
  obtain ⟨k, cur, hk, rfl, hO, hB, hF⟩ := hrel
  have HOR := jq7 hO
  have HBR := jq7 hB
  have HFR := jq7 hF
  have hgr := Bk.lt hO.blk
  have hpr := Bk.lt hB
  clear hO hB hF
  have p1 : wr.cell? ⟨p, 1, none⟩ = some (.slice ca CC.length cc) := Bk.cell HBR.o 1
  have g1 := Bk.free HBR.o 1
  by_cases hlt : k < CC.length
  ·obtain ⟨b, o, rfl, hrg⟩ := (RdC.past HV.o.v.rc HOK.o.c HFR.o HV.o.blk (dval_no _ _ _ _ _)) k hlt
   have HRG := jq7 hrg
   have HX := jq7 (HOK.o.c _ (List.getElem_mem hlt))
   have HIX : Jq7 ((Tryz.prog.info? 68).map (·.size) = some CC[k].cells.length) := jq7 (by rw [Wri.leng HX.o, info_w])
   have HIY : Jq7 ((Tryz.prog.info? 68).map (·.size) = some CC[k].cells.toArray.size) := jq7 (by rw [List.size_toArray, Wri.leng HX.o, info_w])
   have HZY : Jq7 (ZWA.size = CC[k].cells.toArray.size) := jq7 ((show ZWA.size = 129 from ZWC_cells).trans (by rw [List.size_toArray, Wri.leng HX.o]))
   have HOY : Jq7 (CC[k].cells.toArray.all (·.oneCell') = true) := jq7 (all_oneCell_toArray (Wri.one _))
   have HKK := jq7 (fun W h => HK.o k W hlt h)
   have hnx : wr.heap.size ≠ p := by omega
   have hng : wr.heap.size ≠ g := by omega
   have hgp : g ≠ p := by have := HGE.o;omega
   have HW0 := jq7 (Bk.new wr (.cells ZWA 68))
   have HWX : Jq7 (Bk ((wr.alloc (.cells ZWA 68)).setRow wr.heap.size CC[k].cells.toArray) wr.heap.size CC[k].cells.toArray 68) := jq7 (ArrKit.Bk.row HW0.o _)
   have HWB : Jq7 (Bk ((wr.alloc (.cells ZWA 68)).setRow wr.heap.size CC[k].cells.toArray) p (DC (.slice (some ⟨g, 0, none⟩) SS.length cap) (.slice (some ⟨b, o, none⟩) CC.length cc) ff dd) 25) := jq7 (ArrKit.Bk.rowOther (Bk.alloc HBR.o _) _ hnx.symm)
   have HWO : Jq7 (OwnS ((wr.alloc (.cells ZWA 68)).setRow wr.heap.size CC[k].cells.toArray) g cap cur (laid SS CC keep k)) := jq7 (OwnG.keep (OwnG.keep HOR.o (Fr.alloc (Fr.refl (fun _ => False) _) _) (fun h => h)) (Fr.row1 _ _ _) hng.symm)
   have HWF : Jq7 (Fr (fun i => i = p) w ((wr.alloc (.cells ZWA 68)).setRow wr.heap.size CC[k].cells.toArray)) := jq7 (ArrKit.Fr.row (Fr.alloc HFR.o _) _ _ (.inl HFR.o.size))
   obtain ⟨q, hq⟩ : ∃ q : Nat, CC[k].pos = (q : Int) := ⟨CC[k].pos.toNat, by have := HPOS.o k hlt;omega⟩
   have hqn : q < SS.length := by have := HPOS.o k hlt;omega
   have HQ := jq7 hq
   clear hrg hq
   cases hkk : keep k with
   | false =>
    have HKV := jq7 hkk
    rw [hkk] at HKK
    clear hkk
    go_wp2_with (first | ((with_reducible show wkq (.load 68 _) _);refine wpList_load_mid rfl 68 _ rfl b (o + k * 129) rfl CC[k].cells _ HRG.o Tryz.underlying68 rfl HIX.o ?_) | ((with_reducible show wkq (.store 68 _ _) _);refine wpList_store_row rfl 68 _ _ rfl wr.heap.size CC[k].cells.toArray rfl rfl 68 ZWA HW0.o HIY.o HZY.o HOY.o ?_) | (go_at_call 35;(with_reducible refine (HKK.o _ HWF.o).mono ?_);rintro e w2 ⟨rfl, hf2⟩;have HF2 := fq0 HWF hf2;have HB2 := kq0 hf2 HWB;have HO2 := jq7 (OwnG.keep HWO.o hf2 (fun h => h));clear hf2))
    go_roundw
    case rel => exact ⟨k + 1, cur, by omega, by go_num, by rw [laid_succ hlt, HKV.o];exact HO2.o, HB2.o, HF2.o⟩
    case measure => simp [intOf];omega
   | true =>
    have HKV := jq7 hkk
    rw [hkk] at HKK
    clear hkk
    go_wp2_with (first | ((with_reducible show wkq (.load 68 _) _);refine wpList_load_mid rfl 68 _ rfl b (o + k * 129) rfl CC[k].cells _ HRG.o Tryz.underlying68 rfl HIX.o ?_) | ((with_reducible show wkq (.store 68 _ _) _);refine wpList_store_row rfl 68 _ _ rfl wr.heap.size CC[k].cells.toArray rfl rfl 68 ZWA HW0.o HIY.o HZY.o HOY.o ?_) | (go_at_call 35;(with_reducible refine (HKK.o _ HWF.o).mono ?_);rintro e w2 ⟨rfl, hf2⟩;have HF2 := fq0 HWF hf2;have HB2 := kq0 hf2 HWB;have HX2 := kq0 hf2 HWX;have HO2 := jq7 (OwnG.keep HWO.o hf2 (fun h => h));clear hf2))
    have hqo : q * 130 + 130 ≤ cur.size := by have h1 := HO2.o.size;have h2 := HO2.o.room;rw [laid_len] at h2;omega
    have HST : Jq7 (Stand [(p, .cells (DC (.slice (some ⟨g, 0, none⟩) SS.length cap) (.slice (some ⟨b, o, none⟩) CC.length cc) ff dd) 25 (0, 0)), (wr.heap.size, .cells CC[k].cells.toArray 68 (0, 0))] w2) := jq7 (Stand.cons HB2.o (Stand.cons HX2.o (Stand.nil _)))
    have HBd : Jq7 (Bk w2.drew p (DC (.slice (some ⟨g, 0, none⟩) SS.length cap) (.slice (some ⟨b, o, none⟩) CC.length cc) ff dd) 25) := jq7 HB2.o
    have HGd : Jq7 (Bk w2.drew g cur 66) := jq7 HO2.o.blk
    have HFd : Jq7 (Fr (fun i => i = p) w w2.drew) := jq7 (Fr.drew HF2.o)
    have HX0 : Jq7 (CC[k].cells.toArray[0]? = some (.int .i64 (q : Int))) := jq7 (by rw [← HQ.o];simp [Wri.cells])
    have HXD : Jq7 (∀ W : World, W.heap[wr.heap.size]? = some (.cells CC[k].cells.toArray 68 (0, 0)) → W.rangeAt (wr.heap.size) 1 (CC[k].data.map B)) := jq7 (fun W h j u hj => by
     rw [Bk.cell h, List.getElem?_toArray, Nat.add_comm, Wri.data_at]
     exact hj)
    have HIB : Jq7 ((Tryz.prog.info? 36).map (·.size) = some (CC[k].data.map B).length) := jq7 (by rw [List.length_map, HX.o.len, info_b])
    have HIC : Jq7 ((Tryz.prog.info? 36).map (·.size) = some (CC[k].data.map B).toArray.size) := jq7 (by rw [List.size_toArray, List.length_map, HX.o.len, info_b])
    have HOB : Jq7 ((CC[k].data.map B).toArray.all (·.oneCell') = true) := jq7 (by simp [B, Value.oneCell'])
    have HTH : Jq7 (w2.drew.there g (q * 130) (CC[k].data.map B).toArray.size) := jq7 (there_bk HGd.o _ _ (by rw [List.size_toArray, List.length_map, HX.o.len];omega))
    have HOO := jq7 HO2.o
    clear HB2 HX2 HO2 HF2 p1 g1
    refine wp_region_noPanic ?_
    refine wp_region_held_drew (S := (Stand [(p, .cells (DC (.slice (some ⟨g, 0, none⟩) SS.length cap) (.slice (some ⟨b, o, none⟩) CC.length cc) ff dd) 25 (0, 0)), (wr.heap.size, .cells CC[k].cells.toArray 68 (0, 0))])) (by kernel_rfl) (Stand.drew HST.o) (fun hL0 => ?_)
    generalize w2.drew = wd at *
    refine tk0 (i := 0) (v := .pointer (some ⟨p, 0, none⟩)) rfl hL0 ?_
    refine tk0 (i := 1) (v := .pointer (some ⟨p, 0, none⟩)) rfl hL0 ?_
    simp only [Act.put,zA,zB,zC,zD,zE,zF]
    refine tk0 (i := 2) (v := .pointer (some ⟨p, 0, none⟩)) rfl hL0 ?_
    refine tk (i := 3) (v := .slice (some ⟨g, 0, none⟩) SS.length cap) rfl (Or.inl ⟨by kernel_rfl, fun w hSw => by have hcl := (fun W h => Bk.cell (Stand.a0 h) 0) w hSw;go_simp⟩) hL0 ?_
    simp only [Act.put,zA,zB,zC,zD,zE,zF]
    refine tk0 (i := 4) (v := .pointer (some ⟨wr.heap.size, 0, none⟩)) rfl hL0 ?_
    refine tk (i := 5) (v := .int .i64 (q : Int)) rfl (Or.inl ⟨by kernel_rfl, fun w hSw => by have hcl := (fun W h => (Bk.cell (Stand.a0 (Stand.tl h)) 0).trans HX0.o) w hSw;go_simp⟩) hL0 ?_
    simp only [Act.put,zA,zB,zC,zD,zE,zF]
    refine tk0 (i := 6) (v := .pointer (some ⟨wr.heap.size, 1, none⟩)) rfl hL0 ?_
    refine tk (i := 7) (v := .agg (CC[k].data.map B).toArray) rfl (yieldsIf_load_mid (by kernel_rfl) 36 _ rfl (wr.heap.size) 1 rfl (CC[k].data.map B) _ (fun W h => HXD.o W (Stand.a0 (Stand.tl h))) Tryz.underlying36 rfl HIB.o) hL0 ?_
    simp only [Act.put,zA,zB,zC,zD,zE,zF]
    refine tk (i := 8) (v := .pointer (some ⟨g, q * 130, none⟩)) rfl (Or.inl ⟨by kernel_rfl, fun w hSw => by go_simp⟩) hL0 ?_
    refine tk0 (i := 9) (v := .pointer (some ⟨g, q * 130, none⟩)) rfl hL0 ?_
    simp only [Act.put,zA,zB,zC,zD,zE,zF]
    change wpAnyH _ _ _ _ _ 1 #[true, true, true, true, true, true, true, true, true, true, false] _ _
    refine rd1 10 rfl fun K hK => ?_
    simp only [zA, zB, zC]
    refine wp_store_mid 36 _ _ rfl g (q * 130) (CC[k].data.map B).toArray rfl rfl HTH.o HIC.o HOB.o ?_
    refine hK.out _ _ (Stand.fr hL0 (Fr.sets1 _ _ _ _) (fun r hr => by simp only [List.mem_cons, List.not_mem_nil, or_false] at hr;rcases hr with rfl | rfl;exact hgp.symm;exact hng)) (fun hL1 => ?_)
    clear hK K hL0
    have HG3 : Jq7 (Bk (wd.setCells g (q * 130) (CC[k].data.map B).toArray.toList) g (lyc cur (q * 130) (CC[k].data.map B)) 66) := jq7 (sets_bk _ _ _ _ HGd.o)
    have HB3 : Jq7 (Bk (wd.setCells g (q * 130) (CC[k].data.map B).toArray.toList) p (DC (.slice (some ⟨g, 0, none⟩) SS.length cap) (.slice (some ⟨b, o, none⟩) CC.length cc) ff dd) 25) := jq7 ((Fr.sets1 wd g (q * 130) _).keep HBd.o hgp.symm)
    have HF3 : Jq7 (Fr (fun i => i = p) w (wd.setCells g (q * 130) (CC[k].data.map B).toArray.toList)) := jq7 (Fr.newG HFd.o (Fr.sets1 wd g (q * 130) _) HGE.o)
    generalize (wd.setCells g (q * 130) (CC[k].data.map B).toArray.toList) = w3 at *
    change wpAnyH _ _ _ _ _ 0 #[true, true, true, true, true, true, true, true, true, true, true] _ _
    refine wpAnyH_done (by kernel_rfl) ?_ _
    refine NoPanic.normal ?_
    have HEND := jq7 hL1
    clear hL1
    have hs3 : (lyc cur (q * 130) (CC[k].data.map B)).size = cur.size := lay_size _ _ _
    go_wp2_with fail
    clear HST
    have HST := jq7 HEND.o
    have HBe : Jq7 (Bk w3.drew p (DC (.slice (some ⟨g, 0, none⟩) SS.length cap) (.slice (some ⟨b, o, none⟩) CC.length cc) ff dd) 25) := jq7 HB3.o
    have HGe : Jq7 (Bk w3.drew g (lyc cur (q * 130) (CC[k].data.map B)) 66) := jq7 HG3.o
    have HFe : Jq7 (Fr (fun i => i = p) w w3.drew) := jq7 (Fr.drew HF3.o)
    clear HEND HB3 HG3 HF3
    refine wp_region_noPanic ?_
    refine wp_region_held_drew (S := (Stand [(p, .cells (DC (.slice (some ⟨g, 0, none⟩) SS.length cap) (.slice (some ⟨b, o, none⟩) CC.length cc) ff dd) 25 (0, 0)), (wr.heap.size, .cells CC[k].cells.toArray 68 (0, 0))])) (by kernel_rfl) (Stand.drew HST.o) (fun hL0 => ?_)
    generalize w3.drew = we at *
    refine tk0 (i := 0) (v := .pointer (some ⟨p, 0, none⟩)) rfl hL0 ?_
    refine tk0 (i := 1) (v := .pointer (some ⟨p, 0, none⟩)) rfl hL0 ?_
    simp only [Act.put,zA,zB,zC,zD,zE,zF]
    refine tk0 (i := 2) (v := .pointer (some ⟨p, 0, none⟩)) rfl hL0 ?_
    refine tk (i := 3) (v := .slice (some ⟨g, 0, none⟩) SS.length cap) rfl (Or.inl ⟨by kernel_rfl, fun w hSw => by have hcl := (fun W h => Bk.cell (Stand.a0 h) 0) w hSw;go_simp⟩) hL0 ?_
    simp only [Act.put,zA,zB,zC,zD,zE,zF]
    refine tk0 (i := 4) (v := .pointer (some ⟨wr.heap.size, 0, none⟩)) rfl hL0 ?_
    refine tk (i := 5) (v := .int .i64 (q : Int)) rfl (Or.inl ⟨by kernel_rfl, fun w hSw => by have hcl := (fun W h => (Bk.cell (Stand.a0 (Stand.tl h)) 0).trans HX0.o) w hSw;go_simp⟩) hL0 ?_
    simp only [Act.put,zA,zB,zC,zD,zE,zF]
    refine tk (i := 6) (v := .pointer (some ⟨g, q * 130, none⟩)) rfl (Or.inl ⟨by kernel_rfl, fun w hSw => by go_simp⟩) hL0 ?_
    refine tk0 (i := 7) (v := .pointer (some ⟨g, q * 130 + 128, none⟩)) rfl hL0 ?_
    simp only [Act.put,zA,zB,zC,zD,zE,zF]
    change wpAnyH _ _ _ _ _ 1 #[true, true, true, true, true, true, true, true, false] _ _
    refine rd1 8 rfl fun K hK => ?_
    simp only [zA, zB, zC]
    obtain ⟨u9, hu9⟩ : ∃ u, we.cell? ⟨g, q * 130 + 128, none⟩ = some u := ⟨_, (Bk.cell HGe.o _).trans (Array.getElem?_eq_getElem (by omega))⟩
    have hf9 := Bk.free HGe.o (q * 130 + 128)
    go_wp2_with fail
    clear hu9 hf9
    have HG4 : Jq7 (Bk (we.setCell ⟨g, q * 130 + 128, none⟩ (.bool false)) g ((lyc cur (q * 130) (CC[k].data.map B)).setIfInBounds (q * 130 + 128) (.bool false)) 66) := jq7 (Bk.set HGe.o _ _)
    have HB4 : Jq7 (Bk (we.setCell ⟨g, q * 130 + 128, none⟩ (.bool false)) p (DC (.slice (some ⟨g, 0, none⟩) SS.length cap) (.slice (some ⟨b, o, none⟩) CC.length cc) ff dd) 25) := jq7 ((Fr.set1 we g (q * 130 + 128) _).keep HBe.o hgp.symm)
    have HF4 : Jq7 (Fr (fun i => i = p) w (we.setCell ⟨g, q * 130 + 128, none⟩ (.bool false))) := jq7 (Fr.newG HFe.o (Fr.set1 we g (q * 130 + 128) _) HGE.o)
    refine hK.out _ _ (Stand.fr hL0 (Fr.set1 _ _ _ _) (fun r hr => by simp only [List.mem_cons, List.not_mem_nil, or_false] at hr;rcases hr with rfl | rfl;exact hgp.symm;exact hng)) (fun hL1 => ?_)
    clear hK K hL0
    generalize (we.setCell ⟨g, q * 130 + 128, none⟩ (.bool false)) = wy0 at *
    change wpAnyH _ _ _ _ _ 0 #[true, true, true, true, true, true, true, true, true] _ _
    refine wpAnyH_done (by kernel_rfl) ?_ _
    refine NoPanic.normal ?_
    have HEND := jq7 hL1
    clear hL1
    go_wp2_with fail
    go_roundw
    case rel => exact ⟨k + 1, _, by omega, by go_num, by
     rw [laid_succ hlt, HKV.o, if_pos rfl, HQ.o, Int.toNat_natCast]
     exact OwnS.lay1 HOO.o (laid_ok HOK.o.s HOK.o.c k) (by rw [laid_len];exact hqn) CC[k] HX.o HG4.o, HB4.o, HF4.o⟩
    case measure => simp [intOf];omega
  ·obtain rfl : k = CC.length := by omega
   clear hlt
   go_wp2
   go_end0
   refine ⟨⟨_, rfl⟩, ⟨some ⟨g, 0, none⟩, cap, ?_, ?_⟩, Fr.set HFR.o _ _ (.inr rfl)⟩
   ·have := Bk.set HBR.o 1 (.slice none 0 0)
    simp only [layD, dval, laid_len]
    exact this
   ·have hgp : g ≠ p := by have := HGE.o;omega
    have := OwnG.keep HOR.o (Fr.set1 wr p 1 (.slice none 0 0)) hgp
    exact ⟨this.rd, RdG.nil _ _, this.room, this.max, Nat.le_refl _, by omega⟩

theorem lay_f_calls (p : Nat) (d : Dk) (sa : Option Addr) (sc : Nat) (ca : Option Addr) (cc : Nat) (keep : Nat → Bool) (w : World) (hok : d.ok) (hv : DAt w p d sa sc ca cc) (hr : formedB d = true)
  (hk : ∀ (i : Nat) (W : World), i < d.C.length → Fr (fun i => i = p) w W → Calls Tryz.prog 35 #[.int .i64 i] W fun e w' => e = .returned (.bool (keep i)) ∧ Fr0 W w') : Calls Tryz.prog 34 #[.pointer (some ⟨p, 0, none⟩), .func (.func 35) #[] #[]] w fun e w' => (∃ v, e = .returned v) ∧ Laid w w' p (layD d keep) := by
 by_cases h0 : 0 < d.C.length
 ·exact lay_f_some p d sa sc ca cc keep w hok hv h0 hr hk
 ·exact lay_f_empty p d sa sc ca cc keep w hok hv (List.eq_nil_of_length_eq_zero (by omega))

end Go.Proofs.YtmkmpfnadcmcoaaGreatDoor.DiskLay
namespace Go.Proofs.YtmkmpfnadcmcoaaGreatDoor.DiskFlush
open Go Go.RowKit K EqKit ArrKit HeldKit GKit GRow DiskKit DiskAsk DiskForm DiskAct DiskNew DiskCopy DiskLay
theorem clf_calls (i : Nat) (w : World) : Calls Tryz.prog 35 #[.int .i64 i] w fun e w' => e = .returned (.bool true) ∧ Fr0 w w' := by
 go_enter Tryz.func35, Tryz.ntmps35
 go_wp2
 go_ret
 exact ⟨rfl, Fr.refl _ _⟩
def RdB : World → Option Addr → List Bool → Prop := RdG (fun b : Bool => [Value.bool b]) 1
theorem RdB.cell {w : World} {ka : Option Addr} {keep : List Bool} (h : RdB w ka keep) {i : Nat} (hi : i < keep.length) : ∃ b o, ka = some ⟨b, o, none⟩ ∧ w.cell? ⟨b, o + i, none⟩ = some (.bool (keep.getD i false)) := by
 obtain ⟨b, o, e, hr⟩ := h i hi
 refine ⟨b, o, e, ?_⟩
 have := hr 0 _ rfl
 rw [Nat.mul_one, Nat.add_zero] at this
 rw [this, List.getD_eq_getElem?_getD, List.getElem?_eq_getElem hi];rfl
theorem Laid.now {w w1 w2 : World} {p : Nat} {d d' : Dk} {sa : Option Addr} {sc : Nat} {ca : Option Addr} {cc : Nat} (f : Fr0 w w1) (h : Aft w1 w2 p d sa sc ca cc) : Now w w2 p d := ⟨⟨sa, sc, ca, cc, h.at_⟩, (f.weaken (S' := fun i => i = p) (fun _ _ h => h.elim)).trans h.fr⟩
theorem Laid.fr0 {w w1 w2 : World} {p : Nat} {d : Dk} (f : Fr0 w w1) (h : Laid w1 w2 p d) : Now w w2 p d := by
 obtain ⟨⟨sa, sc, h⟩, k⟩ := h
 exact ⟨⟨sa, sc, none, 0, h⟩, (f.weaken (S' := fun i => i = p) (fun _ _ h => h.elim)).trans k⟩
theorem Laid.fr1 {w w1 w2 : World} {p : Nat} {d : Dk} (f : Fr (fun i => i = p) w w1) (h : Laid w1 w2 p d) : Now w w2 p d := by
 obtain ⟨⟨sa, sc, h⟩, k⟩ := h
 exact ⟨⟨sa, sc, none, 0, h⟩, f.trans k⟩
theorem Now.same {w w1 : World} {p : Nat} {d : Dk} {sa : Option Addr} {sc : Nat} {ca : Option Addr} {cc : Nat} (h : DAt w p d sa sc ca cc) (f : Fr0 w w1) : Now w w1 p d := ⟨⟨sa, sc, ca, cc, h.keep f⟩, f.weaken (fun _ _ h => h.elim)⟩
theorem formed_act {d : Dk} : formedB (actD d) = formedB d := by rw [formedB, formedB, actD_S, actD_C]
theorem actE_cases (d : Dk) : actE d = 3 ∨ actE d = 0 := by unfold actE;split;exact .inl rfl;exact .inr rfl
theorem flush_wrong (p : Nat) (d : Dk) (sa : Option Addr) (sc : Nat) (ca : Option Addr) (cc : Nat) (w : World) (hok : d.ok) (hv : DAt w p d sa sc ca cc) (hr : formedB d = false) : Calls Tryz.prog 18 #[.pointer (some ⟨p, 0, none⟩)] w fun e w' => e = .returned (.int .i64 1) ∧ Now w w' p d := by
 have HRI := jq7 (right_calls p 0 d sa sc ca cc w hok hv)
 rw [right0, hr] at HRI
 have HV := jq7 hv
 clear hv hok hr
 go_enter Tryz.func18, Tryz.ntmps18
 go_wp2_with (go_at_call 32;(with_reducible refine (HRI.o).mono ?_);rintro e w2 ⟨rfl, hf2⟩;have HF2 := jq7 hf2;clear hf2)
 go_ret
 exact ⟨rfl, Now.same HV.o HF2.o⟩
theorem flush_down (p : Nat) (d : Dk) (sa : Option Addr) (sc : Nat) (ca : Option Addr) (cc : Nat) (w : World) (hok : d.ok) (hv : DAt w p d sa sc ca cc) (hr : formedB d = true) (ha : actE d = 3) : Calls Tryz.prog 18 #[.pointer (some ⟨p, 0, none⟩)] w fun e w' => e = .returned (.int .i64 3) ∧ Now w w' p (actD d) := by
 have HRI := jq7 (right_calls p 0 d sa sc ca cc w hok hv)
 rw [right0, hr] at HRI
 have HSP := jq7 (fun W (h : Fr0 w W) => spend_calls p d sa sc ca cc W hok (hv.keep h))
 rw [ha] at HSP
 clear hv hok hr ha
 go_enter Tryz.func18, Tryz.ntmps18
 go_wp2_with (first | (go_at_call 32;(with_reducible refine (HRI.o).mono ?_);rintro e w2 ⟨rfl, hf2⟩;have HF2 := jq7 hf2;clear hf2) | (go_at_call 33;(with_reducible refine (HSP.o _ HF2.o).mono ?_);rintro e w3 ⟨rfl, hf3⟩;have HA3 := jq7 hf3;clear hf3))
 go_ret
 exact ⟨rfl, Laid.now (d' := d) HF2.o HA3.o⟩
theorem flush_good (p : Nat) (d : Dk) (sa : Option Addr) (sc : Nat) (ca : Option Addr) (cc : Nat) (w : World) (hok : d.ok) (hv : DAt w p d sa sc ca cc) (hr : formedB d = true) (ha : actE d = 0) : Calls Tryz.prog 18 #[.pointer (some ⟨p, 0, none⟩)] w fun e w' => e = .returned (.int .i64 0) ∧ Now w w' p (layD (actD d) (fun _ => true)) := by
 have HRI := jq7 (right_calls p 0 d sa sc ca cc w hok hv)
 rw [right0, hr] at HRI
 have HSP := jq7 (fun W (h : Fr0 w W) => spend_calls p d sa sc ca cc W hok (hv.keep h))
 rw [ha] at HSP
 have HLA := jq7 (fun W (h : DAt W p (actD d) sa sc ca cc) => lay_f_calls p (actD d) sa sc ca cc (fun _ => true) W (actD_ok hok) h (formed_act.trans hr) (fun i W' _ _ => clf_calls i W'))
 clear hv hok hr ha
 go_enter Tryz.func18, Tryz.ntmps18
 go_wp2_with (first | (go_at_call 32;(with_reducible refine (HRI.o).mono ?_);rintro e w2 ⟨rfl, hf2⟩;have HF2 := jq7 hf2;clear hf2) | (go_at_call 33;(with_reducible refine (HSP.o _ HF2.o).mono ?_);rintro e w3 ⟨rfl, hf3⟩;have HA3 := jq7 hf3;clear hf3) | (go_at_call 34;(with_reducible refine (HLA.o _ HA3.o.at_).mono ?_);rintro e w4 ⟨⟨v4, rfl⟩, hf4⟩;have HA4 := jq7 hf4;clear hf4))
 go_ret
 exact ⟨rfl, Laid.fr1 ((HF2.o.weaken (fun _ _ h => h.elim)).trans HA3.o.fr) HA4.o⟩
theorem flush_calls (p : Nat) (d : Dk) (sa : Option Addr) (sc : Nat) (ca : Option Addr) (cc : Nat) (w : World) (hok : d.ok) (hv : DAt w p d sa sc ca cc) : Calls Tryz.prog 18 #[.pointer (some ⟨p, 0, none⟩)] w fun e w' => e = .returned (.int .i64 (flushE d)) ∧ Now w w' p (flushD d) := by
 unfold flushE flushD
 rw [right0]
 cases hr : formedB d with
 | false => rw [if_pos rfl, if_pos rfl];exact flush_wrong p d sa sc ca cc w hok hv hr
 | true =>
  rw [if_neg (by simp), if_neg (by simp)]
  rcases actE_cases d with ha | ha
  ·rw [if_pos ha, ha];exact flush_down p d sa sc ca cc w hok hv hr ha
  ·rw [if_neg (by omega), ha];exact flush_good p d sa sc ca cc w hok hv hr ha

end Go.Proofs.YtmkmpfnadcmcoaaGreatDoor.DiskFlush
namespace Go.Proofs.YtmkmpfnadcmcoaaGreatDoor.MapKit
open Go Go.RowKit K HeldKit
open Go.Maps (Keyed IsMap Tidy)
def Dm (l : List Int) : DataW Unit := l.foldl (fun D x => D.put (.int .i64 x) (.lit (.bool true))) (.map [])
theorem Dm_snoc (l : List Int) (x : Int) : Dm (l ++ [x]) = (Dm l).put (.int .i64 x) (.lit (.bool true)) := by simp [Dm]
section
variable {P : Program} {k e t : TypeId}
def IM (w : World) (P : Program) (k e : TypeId) (b : Nat) (l : List Int) : Prop := w.ownsMap P k (plainElem P e) b l.length (Dm l)
theorem IM.made (w : World) (P : Program) (k e : TypeId) : IM (w.alloc (.map #[] 0)) P k e w.heap.size [] := World.ownsMap_made w P k _
theorem IM.keep {S : Nat → Prop} {w w' : World} {b : Nat} {l : List Int} (h : IM w P k e b l) (f : Fr S w w') (hs : ¬ S b) : IM w' P k e b l := by
 obtain ⟨es, c, hb, h2⟩ := h
 have hlt : b < w.heap.size := by
  rcases Nat.lt_or_ge b w.heap.size with h | h
  ·exact h
  ·rw [Array.getElem?_eq_none h] at hb;cases hb
 exact ⟨es, c, (f.block b hlt hs).trans hb, h2⟩
theorem IM.lt {w : World} {b : Nat} {l : List Int} (h : IM w P k e b l) : b < w.heap.size := World.ownsMap.lt h
theorem plainElem_bool_inv (he : P.underlying e = some .bool) {v : Value} {z : DataW Unit × List MemPlace} (h : plainElem P e v = some z) : ∃ x, v = .bool x ∧ z = (.lit (.bool x), []) := by
 unfold plainElem at h
 rw [he] at h
 cases v <;> simp at h
 rename_i x
 exact ⟨x, rfl, h.symm⟩
theorem at_Dm (l : List Int) (hl : ∀ x ∈ l, (Lit.int .i64 x).wf = true) (x : Int) (hx : (Lit.int .i64 x).wf = true) : IsMap (Dm l) ∧ (Dm l).atKey (.int .i64 x) (.lit (.bool false)) = .lit (.bool (l.contains x)) := by
 induction h : l.length generalizing l with
 | zero =>
  obtain rfl := List.eq_nil_of_length_eq_zero h
  exact ⟨⟨[], rfl⟩, rfl⟩
 | succ n ih =>
  obtain ⟨l, y, rfl⟩ : ∃ m y, l = m ++ [y] := by
   rcases List.eq_nil_or_concat l with rfl | ⟨m, y, e⟩
   ·simp at h
   ·exact ⟨m, y, by simpa using e⟩
  obtain ⟨h1, h2⟩ := ih l (fun z hz => hl z (List.mem_append_left _ hz)) (by simpa using h)
  rw [Dm_snoc]
  have hk : WideAt.IsKeyLit (.int .i64 y) := trivial
  refine ⟨h1.put _ _, ?_⟩
  by_cases e1 : x = y
  ·subst e1
   rw [Maps.atKey_put_same h1 hk]
   simp
  ·rw [Maps.atKey_put_other (by intro h;injection h with _ h;exact e1 h), h2]
   simp [e1]
theorem IM.look {w : World} {b : Nat} {l : List Int} (h : IM w P k e b l) (hk : P.underlying k = some (.int .i64)) (he : P.underlying e = some .bool) (ht : P.underlying t = some (.map k e)) (hz : (zeroValue e).run P w = .ok (.bool false) w) (hl : ∀ x ∈ l, (Lit.int .i64 x).wf = true) (x : Int) (hx : (Lit.int .i64 x).wf = true) : (Instr.lookup t (.map (some b)) (.int .i64 x) false).run P w = .ok (.bool (l.contains x)) w := by
 obtain ⟨v, ps, hrun, hv⟩ := World.ownsMap.lookup h (Maps.int_keyed hk) ht hz (plainElem_bool he false) (Maps.keyOf_int_mk hk hx)
 obtain ⟨y, rfl, h2⟩ := plainElem_bool_inv he hv
 rw [(at_Dm l hl x hx).2] at h2
 simp only [Prod.mk.injEq, DataW.lit.injEq, Lit.bool.injEq] at h2
 rw [hrun, ← h2.1]
theorem IM.put {w : World} {b : Nat} {l : List Int} (h : IM w P k e b l) (hk : P.underlying k = some (.int .i64)) (he : P.underlying e = some .bool) (ht : P.underlying t = some (.map k e)) (x : Int) (hx : (Lit.int .i64 x).wf = true) (hn : l.length < 1000000) : ∃ w', (Instr.mapUpdate t (.map (some b)) (.int .i64 x) (.bool true)).run P w = .ok () w' ∧ IM w' P k e b (l ++ [x]) ∧ Fr (fun i => i = b) w w' := by
 obtain ⟨w', hr, ho, hg⟩ := World.ownsMap.update h (Maps.int_keyed hk) ht (by unfold maxLen;omega) (Maps.keyOf_int_mk hk hx) (plainElem_bool he true)
 refine ⟨w', hr, ?_, ⟨hg.os, hg.tape, hg.output, hg.size, fun i hi hs => hg.block i hi (by intro h;cases h;exact hs rfl)⟩⟩
 unfold IM
 rw [Dm_snoc, List.length_append]
 exact ho
end
end Go.Proofs.YtmkmpfnadcmcoaaGreatDoor.MapKit
namespace Go.Proofs.YtmkmpfnadcmcoaaGreatDoor.RmKit
open Go Go.RowKit K EqKit ArrKit HeldKit GKit GRow DiskKit
structure Rm where
 gen : Int
 ps : List (Int × Int)
def PR (p : Int × Int) : List Value := [.int .i64 p.1, .int .i64 p.2]
theorem PR_len (p : Int × Int) : (PR p).length = 2 := rfl
theorem PR_one (p : Int × Int) : ∀ v ∈ PR p, v.oneCell' = true := fun v hv => by
 simp only [PR, List.mem_cons, List.not_mem_nil, or_false] at hv
 rcases hv with rfl | rfl <;> rfl
def RdP (w : World) (a : Option Addr) (l : List (Int × Int)) : Prop := RdG PR 2 w a l
theorem RdP.keep {w w1 : World} {a : Option Addr} {l : List (Int × Int)} (h : RdP w a l) (f : Fr0 w w1) : RdP w1 a l := RdG.keep h f
structure Rm.ok (m : Rm) : Prop where
 g : (Lit.int .i64 m.gen).wf = true
 p : ∀ x ∈ m.ps, (Lit.int .i64 x.1).wf = true ∧ (Lit.int .i64 x.2).wf = true
def RC (g : Int) (v : Value) : Array Value := #[.int .i64 g, v]
def rval (m : Rm) (a : Option Addr) (c : Nat) : Array Value := RC m.gen (.slice a m.ps.length c)
theorem info_r (g : Int) (v : Value) : (Tryz.prog.info? 28).map (·.size) = some (RC g v).size := by kernel_rfl
theorem info_pr (p : Int × Int) : (Tryz.prog.info? 70).map (·.size) = some (PR p).length := by kernel_rfl
theorem info_pr2 (p : Int × Int) : (Tryz.prog.info? 70).map (·.size) = some (PR p).toArray.size := by kernel_rfl
structure RV (w : World) (m : Rm) (a : Option Addr) (c : Nat) : Prop where
 rd : RdP w a m.ps
 len : m.ps.length ≤ c
 max : c ≤ 9223372036854775807
theorem RV.keep {w w1 : World} {m : Rm} {a : Option Addr} {c : Nat} (h : RV w m a c) (f : Fr0 w w1) : RV w1 m a c := ⟨h.rd.keep f, h.len, h.max⟩
theorem RdP.form {w : World} {a : Option Addr} {l : List (Int × Int)} (h : RdP w a l) {j : Nat} (hj : j < l.length) : ∃ b o, a = some ⟨b, o, none⟩ ∧ ∀ W, RdP W a l → W.rangeAt b (o + j * 2) (PR l[j]) ∧ W.cell? ⟨b, o + j * 2, none⟩ = some (.int .i64 l[j].1) ∧ W.cell? ⟨b, o + j * 2 + 1, none⟩ = some (.int .i64 l[j].2) := by
 obtain ⟨b, o, e, -⟩ := h j hj
 subst e
 refine ⟨b, o, rfl, fun W hW => ?_⟩
 have hr := RdG.at hW hj
 exact ⟨hr, hr 0 _ rfl, hr 1 _ rfl⟩
def half (s : Int) : Int := if s < 28 ∨ 4096 < s ∨ s % 2 = 1 then 0 else (s - 20) / 2
theorem half_lo {s : Int} (h : half s ≠ 0) : 28 ≤ s ∧ s ≤ 4096 ∧ s % 2 = 0 ∧ 2 * half s + 20 = s ∧ 4 ≤ half s := by
 unfold half at h ⊢
 split at h
 ·exact absurd rfl h
 ·rename_i h1
  rw [if_neg h1]
  omega
theorem half_range (s : Int) : 0 ≤ half s ∧ half s ≤ 2038 := by
 unfold half
 split <;> omega
def usableB (n h : Int) : Bool := decide (0 < h) && decide (0 ≤ n) && decide (n < 2 * h) && decide (1 < n % h)

theorem half_calls (s : Int) (w : World) (hs : (Lit.int .i64 s).wf = true) : Calls Tryz.prog 40 #[.int .i64 s] w fun e w' => e = .returned (.int .i64 (half s)) ∧ w' = w := by
 by_cases h1 : s < 28
 ·have e : half s = 0 := by unfold half;rw [if_pos (.inl h1)]
  rw [e]
  go_enter Tryz.func40, Tryz.ntmps40
  go_wp2
  go_ret
  exact ⟨rfl, rfl⟩
 ·by_cases h2 : 4096 < s
  ·have e : half s = 0 := by unfold half;rw [if_pos (.inr (.inl h2))]
   rw [e]
   go_enter Tryz.func40, Tryz.ntmps40
   go_wp2
   go_ret
   exact ⟨rfl, rfl⟩
  ·have ht : Int.tmod s 2 = s % 2 := Int.tmod_eq_emod_of_nonneg (by omega)
   have hd : Int.tdiv (s - 20) 2 = (s - 20) / 2 := Int.tdiv_eq_ediv_of_nonneg (by omega)
   by_cases h3 : s % 2 = 1
   ·have e : half s = 0 := by unfold half;rw [if_pos (.inr (.inr h3))]
    have ht1 : Int.tmod s 2 = 1 := ht.trans h3
    clear ht h3 hd
    rw [e]
    go_enter Tryz.func40, Tryz.ntmps40
    go_wp2
    go_ret
    exact ⟨rfl, rfl⟩
   ·have ht1 : Int.tmod s 2 = 0 := by rw [ht];omega
    have e : half s = (s - 20) / 2 := by unfold half;rw [if_neg (by omega)]
    have hq : Jq7 (half s = Int.tdiv (s - 20) 2) := jq7 (by rw [e, hd])
    have hr : 0 ≤ Int.tdiv (s - 20) 2 ∧ Int.tdiv (s - 20) 2 ≤ 3000 := by rw [hd];omega
    clear ht h3 hd e
    rw [hq.o]
    go_enter Tryz.func40, Tryz.ntmps40
    go_wp2
    go_ret
    exact ⟨rfl, rfl⟩

theorem rhalf_calls (s : Int) (w : World) (hs : (Lit.int .i64 s).wf = true) : Calls Tryz.prog 48 #[.int .i64 s] w fun e w' => e = .returned (.int .i64 (half s)) ∧ w' = w := by
 by_cases h1 : s < 28
 ·have e : half s = 0 := by unfold half;rw [if_pos (.inl h1)]
  rw [e]
  go_enter Tryz.func48, Tryz.ntmps48
  go_wp2
  go_ret
  exact ⟨rfl, rfl⟩
 ·by_cases h2 : 4096 < s
  ·have e : half s = 0 := by unfold half;rw [if_pos (.inr (.inl h2))]
   rw [e]
   go_enter Tryz.func48, Tryz.ntmps48
   go_wp2
   go_ret
   exact ⟨rfl, rfl⟩
  ·have ht : Int.tmod s 2 = s % 2 := Int.tmod_eq_emod_of_nonneg (by omega)
   have hd : Int.tdiv (s - 20) 2 = (s - 20) / 2 := Int.tdiv_eq_ediv_of_nonneg (by omega)
   by_cases h3 : s % 2 = 1
   ·have e : half s = 0 := by unfold half;rw [if_pos (.inr (.inr h3))]
    have ht1 : Int.tmod s 2 = 1 := ht.trans h3
    clear ht h3 hd
    rw [e]
    go_enter Tryz.func48, Tryz.ntmps48
    go_wp2
    go_ret
    exact ⟨rfl, rfl⟩
   ·have ht1 : Int.tmod s 2 = 0 := by rw [ht];omega
    have e : half s = (s - 20) / 2 := by unfold half;rw [if_neg (by omega)]
    have hq : Jq7 (half s = Int.tdiv (s - 20) 2) := jq7 (by rw [e, hd])
    have hr : 0 ≤ Int.tdiv (s - 20) 2 ∧ Int.tdiv (s - 20) 2 ≤ 3000 := by rw [hd];omega
    clear ht h3 hd e
    rw [hq.o]
    go_enter Tryz.func48, Tryz.ntmps48
    go_wp2
    go_ret
    exact ⟨rfl, rfl⟩

theorem usable_calls (n h : Int) (w : World) (hn : (Lit.int .i64 n).wf = true) (hh : 0 ≤ h ∧ h ≤ 2038) : Calls Tryz.prog 66 #[.int .i64 n, .int .i64 h] w fun e w' => e = .returned (.bool (usableB n h)) ∧ w' = w := by
 by_cases h1 : 0 < h
 case neg =>
  have e : usableB n h = false := by simp [usableB, h1]
  rw [e]
  have hz : h = 0 := by omega
  subst hz
  clear e h1

  go_enter Tryz.func66, Tryz.ntmps66
  go_wp2
  go_ret
  exact ⟨rfl, rfl⟩
 by_cases h2 : 0 ≤ n
 case neg =>
  have e : usableB n h = false := by simp [usableB, h2]
  rw [e]
  clear e
  have h2' : n < 0 := by omega

  go_enter Tryz.func66, Tryz.ntmps66
  go_wp2
  go_ret
  exact ⟨rfl, rfl⟩
 by_cases h3 : n < 2 * h
 case neg =>
  have e : usableB n h = false := by simp [usableB, h3]
  rw [e]
  clear e
  have h3' : 2 * h ≤ n := by omega

  go_enter Tryz.func66, Tryz.ntmps66
  go_wp2
  go_ret
  exact ⟨rfl, rfl⟩
 have ht : Int.tmod n h = n % h := Int.tmod_eq_emod_of_nonneg h2
 have hnz : ¬ h = 0 := by omega
 have hm := Int.emod_nonneg n hnz
 have hm2 := Int.emod_lt_of_pos n h1
 have e : usableB n h = decide (1 < n % h) := by simp [usableB, h1, h2, h3]
 rw [e]
 clear e
 go_enter Tryz.func66, Tryz.ntmps66
 go_wp2
 go_ret
 exact ⟨rfl, rfl⟩

theorem rusable_calls (n h : Int) (w : World) (hn : (Lit.int .i64 n).wf = true) (hh : 0 ≤ h ∧ h ≤ 2038) : Calls Tryz.prog 49 #[.int .i64 n, .int .i64 h] w fun e w' => e = .returned (.bool (usableB n h)) ∧ w' = w := by
 by_cases h1 : 0 < h
 case neg =>
  have e : usableB n h = false := by simp [usableB, h1]
  rw [e]
  have hz : h = 0 := by omega
  subst hz
  clear e h1

  go_enter Tryz.func49, Tryz.ntmps49
  go_wp2
  go_ret
  exact ⟨rfl, rfl⟩
 by_cases h2 : 0 ≤ n
 case neg =>
  have e : usableB n h = false := by simp [usableB, h2]
  rw [e]
  clear e
  have h2' : n < 0 := by omega

  go_enter Tryz.func49, Tryz.ntmps49
  go_wp2
  go_ret
  exact ⟨rfl, rfl⟩
 by_cases h3 : n < 2 * h
 case neg =>
  have e : usableB n h = false := by simp [usableB, h3]
  rw [e]
  clear e
  have h3' : 2 * h ≤ n := by omega

  go_enter Tryz.func49, Tryz.ntmps49
  go_wp2
  go_ret
  exact ⟨rfl, rfl⟩
 have ht : Int.tmod n h = n % h := Int.tmod_eq_emod_of_nonneg h2
 have hnz : ¬ h = 0 := by omega
 have hm := Int.emod_nonneg n hnz
 have hm2 := Int.emod_lt_of_pos n h1
 have e : usableB n h = decide (1 < n % h) := by simp [usableB, h1, h2, h3]
 rw [e]
 clear e
 go_enter Tryz.func49, Tryz.ntmps49
 go_wp2
 go_ret
 exact ⟨rfl, rfl⟩

end Go.Proofs.YtmkmpfnadcmcoaaGreatDoor.RmKit
