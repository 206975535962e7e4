/- The theorems that the claim uses, text behind text (part 3). -/
import Derived.Test.YtmkmpfnadcmcoaaDoorXaa
import Derived.Test.YtmkmpfnadcmcoaaDoorXab
import Derived.WalkSpells
import Derived.Maps.OwnSet
import Derived.Maps.OwnOps
import Derived.Test.YtmkmpfnadcmcoaaDoorProg
set_option maxRecDepth 100000
set_option linter.unusedVariables false
set_option linter.unusedSimpArgs false
namespace Go.Proofs.YtmkmpfnadcmcoaaDoor.DiskCopy
open Go Go.RowKit Go.Proofs.YtmkmpfnadcmcoaaDoor.K Go.Proofs.YtmkmpfnadcmcoaaDoor.EqKit Go.Proofs.YtmkmpfnadcmcoaaDoor.ArrKit Go.Proofs.YtmkmpfnadcmcoaaDoor.HeldKit Go.Proofs.YtmkmpfnadcmcoaaDoor.GKit Go.Proofs.YtmkmpfnadcmcoaaDoor.GRow Go.Proofs.YtmkmpfnadcmcoaaDoor.DiskKit Go.Proofs.YtmkmpfnadcmcoaaDoor.DiskAsk Go.Proofs.YtmkmpfnadcmcoaaDoor.DiskForm Go.Proofs.YtmkmpfnadcmcoaaDoor.DiskAct Go.Proofs.YtmkmpfnadcmcoaaDoor.DiskNew
theorem infoW : (Tryd.prog.info? 101).map (fun i => (i.zero, i.size, i.bytes)) = some (some (.agg (Wri.mk 0 Z128).cells.toArray), 129, 136) := by kernel_rfl
theorem secs_len {l : List Sec} (h : ∀ x ∈ l, x.ok) : ∀ x ∈ l, x.cells.length = 130 := fun x hx => Sec.len (h x hx)
theorem wris_len {l : List Wri} (h : ∀ x ∈ l, x.ok) : ∀ x ∈ l, x.cells.length = 129 := fun x hx => Wri.leng (h x hx)
theorem ZSC_cells : (Value.agg ZSC).cells.size = 130 := by
  show ZSC.size = 130
  rw [ZSC, List.size_toArray, Sec.len Zs_ok]
theorem ZWC_cells : (Value.agg (Wri.mk 0 Z128).cells.toArray).cells.size = 129 := by
  show (Wri.mk 0 Z128).cells.toArray.size = 129
  rw [List.size_toArray, Wri.leng ⟨by simp [Z128], by decide⟩]
abbrev OwnS (w : World) (g cap : Nat) (cur : Array Value) (l : List Sec) : Prop := OwnG Sec.cells 130 46 w g cap cur l
set_option maxHeartbeats 2000000 in
set_option maxRecDepth 100000 in
theorem clone_calls (sa : Option Addr) (sc : Nat) (l : List Sec) (w : World) (hrd : RdS w sa l) (hok : ∀ x ∈ l, x.ok) (h0 : 0 < l.length) (hn : l.length * 130 ≤ 140737488355328) :
    Calls Tryd.prog 24 #[.slice sa l.length sc] w fun e w' => ∃ g cap cur, e = .returned (.slice (some ⟨g, 0, none⟩) l.length cap) ∧ w.heap.size ≤ g ∧ OwnS w' g cap cur l ∧ Fr0 w w' := by
  obtain ⟨b, o, rfl, -, -⟩ := RdG.form hrd h0 Sec.pos
  obtain ⟨i0, hi, hz0, hz1, hz2⟩ := info_parts infoS
  have HI : Hid (Tryd.prog.info? 46 = some i0 ∧ i0.zero = some (.agg ZSC) ∧ i0.size = 130 ∧ i0.bytes = 130) := Lib.hid ⟨hi, hz0, hz1, hz2⟩
  have HE : Hid (Bk (w.alloc (.cells #[] 46)) w.heap.size #[] 46) := Lib.hid (Bk.new w _)
  have HRD : Hid (RdS (w.alloc (.cells #[] 46)) (some ⟨b, o, none⟩) l) := Lib.hid (RdG.keep hrd (Fr.alloc (Fr.refl _ _) _))
  have HOK := Lib.hid hok
  clear hi hz0 hz1 hz2 hrd hok
  have hes := @Lib.run_eql_slice_nil Tryd.prog
  go_enter Tryd.func24, Tryd.ntmps24
  go_wp2_with (at_builtin; refine wpList_append_all rfl (.tmp 5) (.tmp 6) 26 (by rfl) i0 (.agg ZSC) 130 Tryd.underlying26 HI.out.1 HI.out.2.1 HI.out.2.2.1 HI.out.2.2.2 ZSC_cells (by decide) w.heap.size HE.out (by rfl) (some ⟨b, o, none⟩) l.length sc (by rfl) l rfl HRD.out (secs_len HOK.out) (fun x _ => Sec.one x) (by omega) hn ?_; intro g cap cur w1 hge hown hfr)
  go_ret
  exact ⟨g, cap, cur, rfl, hge, hown, Fr.newG (Fr.alloc (Fr.refl _ _) _) hfr (Nat.le_refl _)⟩

theorem size_set (w : World) (a : Addr) (v : Value) : (w.setCell a v).heap.size = w.heap.size := by simp [World.setCell]
end Go.Proofs.YtmkmpfnadcmcoaaDoor.DiskCopy
namespace Go.Proofs.YtmkmpfnadcmcoaaDoor.DiskLay
open Go Go.RowKit Go.Proofs.YtmkmpfnadcmcoaaDoor.K Go.Proofs.YtmkmpfnadcmcoaaDoor.EqKit Go.Proofs.YtmkmpfnadcmcoaaDoor.ArrKit Go.Proofs.YtmkmpfnadcmcoaaDoor.HeldKit Go.Proofs.YtmkmpfnadcmcoaaDoor.GKit Go.Proofs.YtmkmpfnadcmcoaaDoor.GRow Go.Proofs.YtmkmpfnadcmcoaaDoor.DiskKit Go.Proofs.YtmkmpfnadcmcoaaDoor.DiskAsk Go.Proofs.YtmkmpfnadcmcoaaDoor.DiskForm Go.Proofs.YtmkmpfnadcmcoaaDoor.DiskAct Go.Proofs.YtmkmpfnadcmcoaaDoor.DiskNew Go.Proofs.YtmkmpfnadcmcoaaDoor.DiskCopy
abbrev lyc (cs : Array Value) (o : Nat) (vs : List Value) : Array Value := K.lay cs o vs
theorem laid_len (S : List Sec) (C : List Wri) (keep : Nat → Bool) (k : Nat) : (laid S C keep k).length = S.length := by
  induction k with
  | zero => rfl
  | succ k ih =>
    simp only [laid]
    split
    · split
      · rw [List.length_set]; exact ih
      · exact ih
    · exact ih
theorem laid_succ {S : List Sec} {C : List Wri} {keep : Nat → Bool} {k : Nat} (h : k < C.length) : laid S C keep (k + 1) = if keep k then (laid S C keep k).set C[k].pos.toNat { (laid S C keep k).getD C[k].pos.toNat Zs with data := C[k].data, nr := false } else laid S C keep k := by
  show (match C[k]? with | some x => _ | none => _) = _
  rw [List.getElem?_eq_getElem h]
theorem laid_over {S : List Sec} {C : List Wri} {keep : Nat → Bool} {k : Nat} (h : C.length ≤ k) : laid S C keep (k + 1) = laid S C keep k := by
  show (match C[k]? with | some x => _ | none => _) = _
  rw [List.getElem?_eq_none h]
theorem laid_ok {S : List Sec} {C : List Wri} {keep : Nat → Bool} (hS : ∀ x ∈ S, x.ok) (hC : ∀ x ∈ C, x.ok) (k : Nat) : ∀ x ∈ laid S C keep k, x.ok := by
  induction k with
  | zero => exact hS
  | succ k ih =>
    by_cases h : k < C.length
    · rw [laid_succ h]
      split
      · intro x hx
        rcases List.mem_or_eq_of_mem_set hx with hx | rfl
        · exact ih x hx
        · exact (hC _ (List.getElem_mem h)).len
      · exact ih
    · rw [laid_over (by omega)]
      exact ih
theorem layD_ok {d : Dk} (h : d.ok) (keep : Nat → Bool) : (layD d keep).ok := ⟨laid_ok h.s h.c _, fun x hx => by simp [layD] at hx, h.f⟩
/-- one sector laid anew -/
theorem OwnS.lay1 {w w' : World} {g cap : Nat} {cur : Array Value} {l : List Sec} (h : OwnS w g cap cur l) (hok : ∀ x ∈ l, x.ok) {q : Nat} (hq : q < l.length) (x : Wri) (hx : x.ok)
    (hb : Bk w' g ((lyc cur (q * 130) (x.data.map B)).setIfInBounds (q * 130 + 128) (.bool false)) 46) : OwnS w' g cap ((lyc cur (q * 130) (x.data.map B)).setIfInBounds (q * 130 + 128) (.bool false)) (l.set q { l.getD q Zs with data := x.data, nr := false }) := by
  have hl := hx.len
  have hsz : q * 130 + 130 ≤ cur.size := by rw [h.size]; have := h.room; omega
  have hold : l.getD q Zs = l[q] := by rw [List.getD_eq_getElem?_getD, List.getElem?_eq_getElem hq]; rfl
  refine OwnG.set h (secs_len hok) hq _ (Sec.len (show (Sec.mk x.data false (l.getD q Zs).nw).ok from hl)) w' _ hb (by rw [Array.size_setIfInBounds, lay_size]) (fun j u hj => ?_) (fun m hm => ?_)
  · have hj' : j < 130 := by
      have := (List.getElem?_eq_some_iff.1 hj).1
      rwa [Sec.len (show (Sec.mk x.data false (l.getD q Zs).nw).ok from hl)] at this
    rw [Array.getElem?_setIfInBounds, lay_size]
    by_cases h1 : j < 128
    · rw [if_neg (by omega), lay_get, List.length_map, if_pos (by omega), show q * 130 + j - q * 130 = j by omega]
      rw [Sec.data_at (show (Sec.mk x.data false (l.getD q Zs).nw).ok from hl) h1] at hj
      exact hj
    · rcases (show j = 128 ∨ j = 129 by omega) with rfl | rfl
      · rw [if_pos rfl, if_pos (by omega)]
        rw [Sec.nr_at (show (Sec.mk x.data false (l.getD q Zs).nw).ok from hl)] at hj
        exact hj
      · rw [if_neg (by omega), lay_get, List.length_map, if_neg (by omega)]
        rw [Sec.nw_at (show (Sec.mk x.data false (l.getD q Zs).nw).ok from hl)] at hj
        refine h.here q hq 129 u ?_
        rw [Sec.nw_at (hok _ (List.getElem_mem hq)), ← hold]
        exact hj
  · rw [Array.getElem?_setIfInBounds, if_neg (by omega), lay_get, List.length_map, if_neg (by omega)]
/-- what lay leaves -/
def Laid (w w' : World) (p : Nat) (d : Dk) : Prop := (∃ sa sc, DAt w' p d sa sc none 0) ∧ Fr (fun i => i = p) w w'
theorem RdC.past {w w1 : World} {ca : Option Addr} {l : List Wri} (h : RdC w ca l) (hok : ∀ x ∈ l, x.ok) {p : Nat} {cs : Array Value} (f : Fr (fun i => i = p) w w1) (hb : Bk w p cs 29) (hn : ∀ (j : Nat) (x : Value), cs[j]? = some x → ∀ v : UInt8, x ≠ B v) : RdC w1 ca l :=
  RdG.later h f (fun a e hl => by subst e; exact RdC.apart h hl hok hb hn)

set_option maxHeartbeats 2000000 in
set_option maxRecDepth 100000 in
theorem lay_f_empty (p : Nat) (d : Dk) (sa : Option Addr) (sc : Nat) (ca : Option Addr) (cc : Nat) (keep : Nat → Bool) (w : World) (hok : d.ok) (hv : DAt w p d sa sc ca cc) (h0 : d.C = []) : Calls Tryd.prog 22 #[.pointer (some ⟨p, 0, none⟩), .func (.func 23) #[] #[]] w fun e w' => (∃ v, e = .returned v) ∧ Laid w w' p (layD d keep) := by
  have HV := Lib.hid hv
  have HOK := Lib.hid hok
  clear hv hok
  obtain ⟨SS, CC, ff, dd⟩ := d
  subst h0
  have q1 : w.cell? ⟨p, 1, none⟩ = some (.slice ca 0 cc) := Bk.cell HV.out.blk 1
  have f1 := Bk.free HV.out.blk 1
  go_enter Tryd.func22, Tryd.ntmps22
  go_wp2
  go_loopw [25] (fun i wr => i = .int .i64 0 ∧ wr = w) (fun _ _ => 0)
  case atStart => exact ⟨rfl, rfl⟩
  case round =>
    obtain ⟨rfl, rfl⟩ := hrel
    go_wp2
    go_end0
    refine ⟨⟨_, rfl⟩, ⟨sa, sc, Bk.set HV.out.blk 1 _, ?_⟩, Fr.set1 _ _ _ _⟩
    have := HV.out.v.past HOK.out (Fr.set1 _ p 1 (.slice none 0 0)) HV.out.blk (dval_no _ _ _ _ _)
    exact ⟨this.rs, RdG.nil _ _, this.sn, this.sm, Nat.le_refl _, by omega⟩

def ZWA : Array Value := (Wri.mk 0 Z128).cells.toArray
theorem formed_parts {d : Dk} (h : formedB d = true) : 1 ≤ d.S.length ∧ d.S.length ≤ 4096 ∧ ∀ k (h : k < d.C.length), 0 ≤ d.C[k].pos ∧ d.C[k].pos < d.S.length := by
  rw [formedB, Bool.and_eq_true, decide_eq_true_eq] at h
  refine ⟨h.2.1, h.2.2, fun k hk => ?_⟩
  have := List.all_eq_true.1 h.1 _ (List.getElem_mem hk)
  exact thereB_true.1 this

set_option maxHeartbeats 2000000 in
set_option maxRecDepth 100000 in
theorem lay_f_some (p : Nat) (d : Dk) (sa : Option Addr) (sc : Nat) (ca : Option Addr) (cc : Nat) (keep : Nat → Bool) (w : World) (hok : d.ok) (hv : DAt w p d sa sc ca cc) (h0 : 0 < d.C.length) (hr : formedB d = true)
    (hk : ∀ (i : Nat) (W : World), i < d.C.length → Fr (fun i => i = p) w W → Calls Tryd.prog 23 #[.int .i64 i] W fun e w' => e = .returned (.bool (keep i)) ∧ Fr0 W w') : Calls Tryd.prog 22 #[.pointer (some ⟨p, 0, none⟩), .func (.func 23) #[] #[]] w fun e w' => (∃ v, e = .returned v) ∧ Laid w w' p (layD d keep) := by
  have hfm := formed_parts hr
  have HCL := Lib.hid (clone_calls sa sc d.S w hv.v.rs hok.s (by omega) (by omega))
  have HK := Lib.hid hk
  have HV := Lib.hid hv
  have HOK := Lib.hid hok
  have hcn := hv.v.cn
  have hcm := hv.v.cm
  have hn1 := hfm.1
  have hn2 := hfm.2.1
  have HPOS := Lib.hid hfm.2.2
  have hpw : p < w.heap.size := Bk.lt hv.blk
  clear hk hv hok hr hfm
  have hzw : ∀ W, (zeroValue 101).run Tryd.prog W = .ok (.agg ZWA) W := by intro W; kernel_rfl
  obtain ⟨SS, CC, ff, dd⟩ := d
  dsimp only at *
  have q0 : w.cell? ⟨p, 0, none⟩ = some (.slice sa SS.length sc) := Bk.cell HV.out.blk 0
  have q1 : w.cell? ⟨p, 1, none⟩ = some (.slice ca CC.length cc) := Bk.cell HV.out.blk 1
  have f1 := Bk.free HV.out.blk 1
  have f0 := Bk.free HV.out.blk 0
  go_enter Tryd.func22, Tryd.ntmps22
  go_wp2_with (go_at_call 24; (with_reducible refine HCL.out.mono ?_); rintro e w1 ⟨g, cap, cur, rfl, hge, hown, hfr⟩; have hp1 : p < w1.heap.size := hfr.lt hpw; have p0 : w1.cell? ⟨p, 0, none⟩ = some (.slice sa SS.length sc) := (hfr.cell p 0 hpw (fun h => h)).trans q0; have p1 : w1.cell? ⟨p, 1, none⟩ = some (.slice ca CC.length cc) := (hfr.cell p 1 hpw (fun h => h)).trans q1; have g0 : w1.frozen? ⟨p, 0, none⟩ = false := (hfr.froz p 0 hpw (fun h => h)).trans f0; have g1 : w1.frozen? ⟨p, 1, none⟩ = false := (hfr.froz p 1 hpw (fun h => h)).trans f1; have HB1 : Hid (Bk (w1.setCell ⟨p, 0, none⟩ (.slice (some ⟨g, 0, none⟩) SS.length cap)) p (DC (.slice (some ⟨g, 0, none⟩) SS.length cap) (.slice ca CC.length cc) ff dd) 29) := Lib.hid (Bk.set (hfr.keep HV.out.blk (fun h => h)) 0 _); have HO1 : Hid (OwnS (w1.setCell ⟨p, 0, none⟩ (.slice (some ⟨g, 0, none⟩) SS.length cap)) g cap cur SS) := Lib.hid (OwnG.keep hown (Fr.set1 _ _ _ _) (by omega)); have HF1 : Hid (Fr (fun i => i = p) w (w1.setCell ⟨p, 0, none⟩ (.slice (some ⟨g, 0, none⟩) SS.length cap))) := Lib.hid (Fr.set (hfr.weaken (fun _ _ h => h.elim)) _ _ (.inr rfl)); have HGE := Lib.hid hge; clear hfr hown hge)
  clear q0 q1 f0 f1 p0 p1 g0 g1
  generalize hw0 : w1.setCell _ _ = w0 at *
  clear hw0 hp1
  go_loopw [25] (fun i wr => ∃ k cur, k ≤ CC.length ∧ i = .int .i64 (k : Nat) ∧ OwnS wr g cap cur (laid SS CC keep k) ∧ Bk wr p (DC (.slice (some ⟨g, 0, none⟩) SS.length cap) (.slice ca CC.length cc) ff dd) 29 ∧ Fr (fun i => i = p) w wr) (fun i _ => CC.length - (intOf i).toNat)
  case atStart => exact ⟨0, cur, Nat.zero_le _, rfl, HO1.out, HB1.out, HF1.out⟩
  case round =>
    clear HB1 HO1 HF1
    obtain ⟨k, cur, hk, rfl, hO, hB, hF⟩ := hrel
    have HOR := Lib.hid hO
    have HBR := Lib.hid hB
    have HFR := Lib.hid hF
    have hgr := Bk.lt hO.blk
    have hpr := Bk.lt hB
    clear hO hB hF
    have p1 : wr.cell? ⟨p, 1, none⟩ = some (.slice ca CC.length cc) := Bk.cell HBR.out 1
    have g1 := Bk.free HBR.out 1
    by_cases hlt : k < CC.length
    · obtain ⟨b, o, rfl, hrg⟩ := (RdC.past HV.out.v.rc HOK.out.c HFR.out HV.out.blk (dval_no _ _ _ _ _)) k hlt
      have HRG := Lib.hid hrg
      have HX := Lib.hid (HOK.out.c _ (List.getElem_mem hlt))
      have HIX : Hid ((Tryd.prog.info? 101).map (·.size) = some CC[k].cells.length) := Lib.hid (by rw [Wri.leng HX.out, info_w])
      have HIY : Hid ((Tryd.prog.info? 101).map (·.size) = some CC[k].cells.toArray.size) := Lib.hid (by rw [List.size_toArray, Wri.leng HX.out, info_w])
      have HZY : Hid (ZWA.size = CC[k].cells.toArray.size) := Lib.hid ((show ZWA.size = 129 from ZWC_cells).trans (by rw [List.size_toArray, Wri.leng HX.out]))
      have HOY : Hid (CC[k].cells.toArray.all (·.oneCell') = true) := Lib.hid (all_oneCell_toArray (Wri.one _))
      have HKK := Lib.hid (fun W h => HK.out k W hlt h)
      have hnx : wr.heap.size ≠ p := by omega
      have hng : wr.heap.size ≠ g := by omega
      have hgp : g ≠ p := by have := HGE.out; omega
      have HW0 := Lib.hid (Bk.new wr (.cells ZWA 101))
      have HWX : Hid (Bk ((wr.alloc (.cells ZWA 101)).setRow wr.heap.size CC[k].cells.toArray) wr.heap.size CC[k].cells.toArray 101) := Lib.hid (ArrKit.Bk.row HW0.out _)
      have HWB : Hid (Bk ((wr.alloc (.cells ZWA 101)).setRow wr.heap.size CC[k].cells.toArray) p (DC (.slice (some ⟨g, 0, none⟩) SS.length cap) (.slice (some ⟨b, o, none⟩) CC.length cc) ff dd) 29) := Lib.hid (ArrKit.Bk.rowOther (Bk.alloc HBR.out _) _ hnx.symm)
      have HWO : Hid (OwnS ((wr.alloc (.cells ZWA 101)).setRow wr.heap.size CC[k].cells.toArray) g cap cur (laid SS CC keep k)) := Lib.hid (OwnG.keep (OwnG.keep HOR.out (Fr.alloc (Fr.refl (fun _ => False) _) _) (fun h => h)) (Fr.row1 _ _ _) hng.symm)
      have HWF : Hid (Fr (fun i => i = p) w ((wr.alloc (.cells ZWA 101)).setRow wr.heap.size CC[k].cells.toArray)) := Lib.hid (ArrKit.Fr.row (Fr.alloc HFR.out _) _ _ (.inl HFR.out.size))
      obtain ⟨q, hq⟩ : ∃ q : Nat, CC[k].pos = (q : Int) := ⟨CC[k].pos.toNat, by have := HPOS.out k hlt; omega⟩
      have hqn : q < SS.length := by have := HPOS.out k hlt; omega
      have HQ := Lib.hid hq
      clear hrg hq
      cases hkk : keep k with
      | false =>
        have HKV := Lib.hid hkk
        rw [hkk] at HKK
        clear hkk
        go_wp2_with (first | ((with_reducible show wpList _ _ _ ({ dst := _, op := Op.load 101 _, type := _, pos := _, after := _, guard := _ } :: _) _ _); refine wpList_load_mid rfl 101 _ rfl b (o + k * 129) rfl CC[k].cells _ HRG.out Tryd.underlying101 rfl HIX.out ?_) | ((with_reducible show wpList _ _ _ ({ dst := _, op := Op.store 101 _ _, type := _, pos := _, after := _, guard := _ } :: _) _ _); refine wpList_store_row rfl 101 _ _ rfl wr.heap.size CC[k].cells.toArray rfl rfl 101 ZWA HW0.out HIY.out HZY.out HOY.out ?_) | (go_at_call 23; (with_reducible refine (HKK.out _ HWF.out).mono ?_); rintro e w2 ⟨rfl, hf2⟩; have HF2 := Lib.hid (HWF.out.then0 hf2); have HB2 := Lib.hid (hf2.keep HWB.out (fun h => h)); have HO2 := Lib.hid (OwnG.keep HWO.out hf2 (fun h => h)); clear hf2))
        go_roundw
        case rel => exact ⟨k + 1, cur, by omega, by go_num, by rw [laid_succ hlt, HKV.out]; exact HO2.out, HB2.out, HF2.out⟩
        case measure => simp [intOf]; omega
      | true =>
        have HKV := Lib.hid hkk
        rw [hkk] at HKK
        clear hkk
        go_wp2_with (first | ((with_reducible show wpList _ _ _ ({ dst := _, op := Op.load 101 _, type := _, pos := _, after := _, guard := _ } :: _) _ _); refine wpList_load_mid rfl 101 _ rfl b (o + k * 129) rfl CC[k].cells _ HRG.out Tryd.underlying101 rfl HIX.out ?_) | ((with_reducible show wpList _ _ _ ({ dst := _, op := Op.store 101 _ _, type := _, pos := _, after := _, guard := _ } :: _) _ _); refine wpList_store_row rfl 101 _ _ rfl wr.heap.size CC[k].cells.toArray rfl rfl 101 ZWA HW0.out HIY.out HZY.out HOY.out ?_) | (go_at_call 23; (with_reducible refine (HKK.out _ HWF.out).mono ?_); rintro e w2 ⟨rfl, hf2⟩; have HF2 := Lib.hid (HWF.out.then0 hf2); have HB2 := Lib.hid (hf2.keep HWB.out (fun h => h)); have HX2 := Lib.hid (hf2.keep HWX.out (fun h => h)); have HO2 := Lib.hid (OwnG.keep HWO.out hf2 (fun h => h)); clear hf2))
        have hqo : q * 130 + 130 ≤ cur.size := by have h1 := HO2.out.size; have h2 := HO2.out.room; rw [laid_len] at h2; omega
        have HST : Hid (Stand [(p, .cells (DC (.slice (some ⟨g, 0, none⟩) SS.length cap) (.slice (some ⟨b, o, none⟩) CC.length cc) ff dd) 29 (0, 0)), (wr.heap.size, .cells CC[k].cells.toArray 101 (0, 0))] w2) := Lib.hid (Stand.cons HB2.out (Stand.cons HX2.out (Stand.nil _)))
        have HBd : Hid (Bk w2.drew p (DC (.slice (some ⟨g, 0, none⟩) SS.length cap) (.slice (some ⟨b, o, none⟩) CC.length cc) ff dd) 29) := Lib.hid HB2.out
        have HGd : Hid (Bk w2.drew g cur 46) := Lib.hid HO2.out.blk
        have HFd : Hid (Fr (fun i => i = p) w w2.drew) := Lib.hid (Fr.drew HF2.out)
        have HX0 : Hid (CC[k].cells.toArray[0]? = some (.int .i64 (q : Int))) := Lib.hid (by rw [← HQ.out]; simp [Wri.cells])
        have HXD : Hid (∀ W : World, W.heap[wr.heap.size]? = some (.cells CC[k].cells.toArray 101 (0, 0)) → W.rangeAt (wr.heap.size) 1 (CC[k].data.map B)) := Lib.hid (fun W h j u hj => by
          rw [Bk.cell h, List.getElem?_toArray, Nat.add_comm, Wri.data_at]
          exact hj)
        have HIB : Hid ((Tryd.prog.info? 22).map (·.size) = some (CC[k].data.map B).length) := Lib.hid (by rw [List.length_map, HX.out.len, info_b])
        have HIC : Hid ((Tryd.prog.info? 22).map (·.size) = some (CC[k].data.map B).toArray.size) := Lib.hid (by rw [List.size_toArray, List.length_map, HX.out.len, info_b])
        have HOB : Hid ((CC[k].data.map B).toArray.all (·.oneCell') = true) := Lib.hid (by simp [B, Value.oneCell'])
        have HTH : Hid (w2.drew.there g (q * 130) (CC[k].data.map B).toArray.size) := Lib.hid (there_bk HGd.out _ _ (by rw [List.size_toArray, List.length_map, HX.out.len]; omega))
        have HOO := Lib.hid HO2.out
        clear HB2 HX2 HO2 HF2 p1 g1
        refine wp_region_noPanic ?_
        refine wp_region_held_drew (S := (Stand [(p, .cells (DC (.slice (some ⟨g, 0, none⟩) SS.length cap) (.slice (some ⟨b, o, none⟩) CC.length cc) ff dd) 29 (0, 0)), (wr.heap.size, .cells CC[k].cells.toArray 101 (0, 0))])) (by kernel_rfl) (Stand.drew HST.out) (fun hHeld0 => ?_)
        generalize w2.drew = wd at *
        refine tk0 (i := 0) (v := .pointer (some ⟨p, 0, none⟩)) rfl hHeld0 ?_
        simp only [Act.put, zA, zB, zC, zD, zE, zF]
        refine tk0 (i := 1) (v := .pointer (some ⟨p, 0, none⟩)) rfl hHeld0 ?_
        simp only [Act.put, zA, zB, zC, zD, zE, zF]
        refine tk0 (i := 2) (v := .pointer (some ⟨p, 0, none⟩)) rfl hHeld0 ?_
        simp only [Act.put, zA, zB, zC, zD, zE, zF]
        refine tk (i := 3) (v := .slice (some ⟨g, 0, none⟩) SS.length cap) rfl (Or.inl ⟨by kernel_rfl, fun w hSw => by have hcl := (fun W h => Bk.cell (Stand.a0 h) 0) w hSw; go_simp⟩) hHeld0 ?_
        simp only [Act.put, zA, zB, zC, zD, zE, zF]
        refine tk0 (i := 4) (v := .pointer (some ⟨wr.heap.size, 0, none⟩)) rfl hHeld0 ?_
        simp only [Act.put, zA, zB, zC, zD, zE, zF]
        refine tk (i := 5) (v := .int .i64 (q : Int)) rfl (Or.inl ⟨by kernel_rfl, fun w hSw => by have hcl := (fun W h => (Bk.cell (Stand.a0 (Stand.tl h)) 0).trans HX0.out) w hSw; go_simp⟩) hHeld0 ?_
        simp only [Act.put, zA, zB, zC, zD, zE, zF]
        refine tk0 (i := 6) (v := .pointer (some ⟨wr.heap.size, 1, none⟩)) rfl hHeld0 ?_
        simp only [Act.put, zA, zB, zC, zD, zE, zF]
        refine tk (i := 7) (v := .agg (CC[k].data.map B).toArray) rfl (yieldsIf_load_mid (by kernel_rfl) 22 _ rfl (wr.heap.size) 1 rfl (CC[k].data.map B) _ (fun W h => HXD.out W (Stand.a0 (Stand.tl h))) Tryd.underlying22 rfl HIB.out) hHeld0 ?_
        simp only [Act.put, zA, zB, zC, zD, zE, zF]
        refine tk (i := 8) (v := .pointer (some ⟨g, q * 130, none⟩)) rfl (Or.inl ⟨by kernel_rfl, fun w hSw => by go_simp⟩) hHeld0 ?_
        simp only [Act.put, zA, zB, zC, zD, zE, zF]
        refine tk0 (i := 9) (v := .pointer (some ⟨g, q * 130, none⟩)) rfl hHeld0 ?_
        simp only [Act.put, zA, zB, zC, zD, zE, zF]
        change wpAnyH _ _ _ _ _ 1 #[true, true, true, true, true, true, true, true, true, true, false] _ _
        refine wpAnyH_ready (rs := [10]) (by kernel_rfl) (by simp) ?_
        refine AllReadyH.cons rfl (fun K hK => ?_) AllReadyH.nil
        simp only [zA, zB, zC]
        refine (if_pos (by kernel_rfl)).mpr ?_
        refine wp_store_mid 22 _ _ rfl g (q * 130) (CC[k].data.map B).toArray rfl rfl HTH.out HIC.out HOB.out ?_
        refine hK.out _ _ (Stand.fr hHeld0 (Fr.sets1 _ _ _ _) (fun r hr => by simp only [List.mem_cons, List.not_mem_nil, or_false] at hr; rcases hr with rfl | rfl; exact hgp.symm; exact hng)) (fun hHeld1 => ?_)
        clear hK K hHeld0
        have HG3 : Hid (Bk (wd.setCells g (q * 130) (CC[k].data.map B).toArray.toList) g (lyc cur (q * 130) (CC[k].data.map B)) 46) := Lib.hid (sets_bk _ _ _ _ HGd.out)
        have HB3 : Hid (Bk (wd.setCells g (q * 130) (CC[k].data.map B).toArray.toList) p (DC (.slice (some ⟨g, 0, none⟩) SS.length cap) (.slice (some ⟨b, o, none⟩) CC.length cc) ff dd) 29) := Lib.hid ((Fr.sets1 wd g (q * 130) _).keep HBd.out hgp.symm)
        have HF3 : Hid (Fr (fun i => i = p) w (wd.setCells g (q * 130) (CC[k].data.map B).toArray.toList)) := Lib.hid (Fr.newG HFd.out (Fr.sets1 wd g (q * 130) _) HGE.out)
        generalize (wd.setCells g (q * 130) (CC[k].data.map B).toArray.toList) = w3 at *
        change wpAnyH _ _ _ _ _ 0 #[true, true, true, true, true, true, true, true, true, true, true] _ _
        refine wpAnyH_done (by kernel_rfl) ?_ _
        refine NoPanic.normal ?_
        have HEND := Lib.hid hHeld1
        clear hHeld1
        have hs3 : (lyc cur (q * 130) (CC[k].data.map B)).size = cur.size := lay_size _ _ _
        go_wp2_with fail
        clear HST
        have HST := Lib.hid HEND.out
        have HBe : Hid (Bk w3.drew p (DC (.slice (some ⟨g, 0, none⟩) SS.length cap) (.slice (some ⟨b, o, none⟩) CC.length cc) ff dd) 29) := Lib.hid HB3.out
        have HGe : Hid (Bk w3.drew g (lyc cur (q * 130) (CC[k].data.map B)) 46) := Lib.hid HG3.out
        have HFe : Hid (Fr (fun i => i = p) w w3.drew) := Lib.hid (Fr.drew HF3.out)
        clear HEND HB3 HG3 HF3
        refine wp_region_noPanic ?_
        refine wp_region_held_drew (S := (Stand [(p, .cells (DC (.slice (some ⟨g, 0, none⟩) SS.length cap) (.slice (some ⟨b, o, none⟩) CC.length cc) ff dd) 29 (0, 0)), (wr.heap.size, .cells CC[k].cells.toArray 101 (0, 0))])) (by kernel_rfl) (Stand.drew HST.out) (fun hHeld0 => ?_)
        generalize w3.drew = we at *
        refine tk0 (i := 0) (v := .pointer (some ⟨p, 0, none⟩)) rfl hHeld0 ?_
        simp only [Act.put, zA, zB, zC, zD, zE, zF]
        refine tk0 (i := 1) (v := .pointer (some ⟨p, 0, none⟩)) rfl hHeld0 ?_
        simp only [Act.put, zA, zB, zC, zD, zE, zF]
        refine tk0 (i := 2) (v := .pointer (some ⟨p, 0, none⟩)) rfl hHeld0 ?_
        simp only [Act.put, zA, zB, zC, zD, zE, zF]
        refine tk (i := 3) (v := .slice (some ⟨g, 0, none⟩) SS.length cap) rfl (Or.inl ⟨by kernel_rfl, fun w hSw => by have hcl := (fun W h => Bk.cell (Stand.a0 h) 0) w hSw; go_simp⟩) hHeld0 ?_
        simp only [Act.put, zA, zB, zC, zD, zE, zF]
        refine tk0 (i := 4) (v := .pointer (some ⟨wr.heap.size, 0, none⟩)) rfl hHeld0 ?_
        simp only [Act.put, zA, zB, zC, zD, zE, zF]
        refine tk (i := 5) (v := .int .i64 (q : Int)) rfl (Or.inl ⟨by kernel_rfl, fun w hSw => by have hcl := (fun W h => (Bk.cell (Stand.a0 (Stand.tl h)) 0).trans HX0.out) w hSw; go_simp⟩) hHeld0 ?_
        simp only [Act.put, zA, zB, zC, zD, zE, zF]
        refine tk (i := 6) (v := .pointer (some ⟨g, q * 130, none⟩)) rfl (Or.inl ⟨by kernel_rfl, fun w hSw => by go_simp⟩) hHeld0 ?_
        simp only [Act.put, zA, zB, zC, zD, zE, zF]
        refine tk0 (i := 7) (v := .pointer (some ⟨g, q * 130 + 128, none⟩)) rfl hHeld0 ?_
        simp only [Act.put, zA, zB, zC, zD, zE, zF]
        change wpAnyH _ _ _ _ _ 1 #[true, true, true, true, true, true, true, true, false] _ _
        refine wpAnyH_ready (rs := [8]) (by kernel_rfl) (by simp) ?_
        refine AllReadyH.cons rfl (fun K hK => ?_) AllReadyH.nil
        simp only [zA, zB, zC]
        refine (if_pos (by kernel_rfl)).mpr ?_
        obtain ⟨u9, hu9⟩ : ∃ u, we.cell? ⟨g, q * 130 + 128, none⟩ = some u := ⟨_, (Bk.cell HGe.out _).trans (Array.getElem?_eq_getElem (by omega))⟩
        have hf9 := Bk.free HGe.out (q * 130 + 128)
        go_wp2_with fail
        clear hu9 hf9
        have HG4 : Hid (Bk (we.setCell ⟨g, q * 130 + 128, none⟩ (.bool false)) g ((lyc cur (q * 130) (CC[k].data.map B)).setIfInBounds (q * 130 + 128) (.bool false)) 46) := Lib.hid (Bk.set HGe.out _ _)
        have HB4 : Hid (Bk (we.setCell ⟨g, q * 130 + 128, none⟩ (.bool false)) p (DC (.slice (some ⟨g, 0, none⟩) SS.length cap) (.slice (some ⟨b, o, none⟩) CC.length cc) ff dd) 29) := Lib.hid ((Fr.set1 we g (q * 130 + 128) _).keep HBe.out hgp.symm)
        have HF4 : Hid (Fr (fun i => i = p) w (we.setCell ⟨g, q * 130 + 128, none⟩ (.bool false))) := Lib.hid (Fr.newG HFe.out (Fr.set1 we g (q * 130 + 128) _) HGE.out)
        refine hK.out _ _ (Stand.fr hHeld0 (Fr.set1 _ _ _ _) (fun r hr => by simp only [List.mem_cons, List.not_mem_nil, or_false] at hr; rcases hr with rfl | rfl; exact hgp.symm; exact hng)) (fun hHeld1 => ?_)
        clear hK K hHeld0
        generalize (we.setCell ⟨g, q * 130 + 128, none⟩ (.bool false)) = wy0 at *
        change wpAnyH _ _ _ _ _ 0 #[true, true, true, true, true, true, true, true, true] _ _
        refine wpAnyH_done (by kernel_rfl) ?_ _
        refine NoPanic.normal ?_
        have HEND := Lib.hid hHeld1
        clear hHeld1
        go_wp2_with fail
        go_roundw
        case rel => exact ⟨k + 1, _, by omega, by go_num, by
          rw [laid_succ hlt, HKV.out, if_pos rfl, HQ.out, Int.toNat_natCast]
          exact OwnS.lay1 HOO.out (laid_ok HOK.out.s HOK.out.c k) (by rw [laid_len]; exact hqn) CC[k] HX.out HG4.out, HB4.out, HF4.out⟩
        case measure => simp [intOf]; omega
    · obtain rfl : k = CC.length := by omega
      clear hlt
      go_wp2
      go_end0
      refine ⟨⟨_, rfl⟩, ⟨some ⟨g, 0, none⟩, cap, ?_, ?_⟩, Fr.set HFR.out _ _ (.inr rfl)⟩
      · have := Bk.set HBR.out 1 (.slice none 0 0)
        simp only [layD, dval, laid_len]
        exact this
      · have hgp : g ≠ p := by have := HGE.out; omega
        have := OwnG.keep HOR.out (Fr.set1 wr p 1 (.slice none 0 0)) hgp
        exact ⟨this.rd, RdG.nil _ _, this.room, this.max, Nat.le_refl _, by omega⟩

/-- LAY: what disk.lay does. -/
theorem lay_f_calls (p : Nat) (d : Dk) (sa : Option Addr) (sc : Nat) (ca : Option Addr) (cc : Nat) (keep : Nat → Bool) (w : World) (hok : d.ok) (hv : DAt w p d sa sc ca cc) (hr : formedB d = true)
    (hk : ∀ (i : Nat) (W : World), i < d.C.length → Fr (fun i => i = p) w W → Calls Tryd.prog 23 #[.int .i64 i] W fun e w' => e = .returned (.bool (keep i)) ∧ Fr0 W w') : Calls Tryd.prog 22 #[.pointer (some ⟨p, 0, none⟩), .func (.func 23) #[] #[]] w fun e w' => (∃ v, e = .returned v) ∧ Laid w w' p (layD d keep) := by
  by_cases h0 : 0 < d.C.length
  · exact lay_f_some p d sa sc ca cc keep w hok hv h0 hr hk
  · exact lay_f_empty p d sa sc ca cc keep w hok hv (List.eq_nil_of_length_eq_zero (by omega))

end Go.Proofs.YtmkmpfnadcmcoaaDoor.DiskLay
namespace Go.Proofs.YtmkmpfnadcmcoaaDoor.DiskFlush
open Go Go.RowKit Go.Proofs.YtmkmpfnadcmcoaaDoor.K Go.Proofs.YtmkmpfnadcmcoaaDoor.EqKit Go.Proofs.YtmkmpfnadcmcoaaDoor.ArrKit Go.Proofs.YtmkmpfnadcmcoaaDoor.HeldKit Go.Proofs.YtmkmpfnadcmcoaaDoor.GKit Go.Proofs.YtmkmpfnadcmcoaaDoor.GRow Go.Proofs.YtmkmpfnadcmcoaaDoor.DiskKit Go.Proofs.YtmkmpfnadcmcoaaDoor.DiskAsk Go.Proofs.YtmkmpfnadcmcoaaDoor.DiskForm Go.Proofs.YtmkmpfnadcmcoaaDoor.DiskAct Go.Proofs.YtmkmpfnadcmcoaaDoor.DiskNew Go.Proofs.YtmkmpfnadcmcoaaDoor.DiskCopy Go.Proofs.YtmkmpfnadcmcoaaDoor.DiskLay
set_option maxHeartbeats 2000000 in
set_option maxRecDepth 100000 in
theorem clf_calls (i : Nat) (w : World) : Calls Tryd.prog 23 #[.int .i64 i] w fun e w' => e = .returned (.bool true) ∧ Fr0 w w' := by
  go_enter Tryd.func23, Tryd.ntmps23
  go_wp2
  go_ret
  exact ⟨rfl, Fr.refl _ _⟩
def RdB : World → Option Addr → List Bool → Prop := RdG (fun b : Bool => [Value.bool b]) 1
theorem RdB.cell {w : World} {ka : Option Addr} {keep : List Bool} (h : RdB w ka keep) {i : Nat} (hi : i < keep.length) : ∃ b o, ka = some ⟨b, o, none⟩ ∧ w.cell? ⟨b, o + i, none⟩ = some (.bool (keep.getD i false)) := by
  obtain ⟨b, o, e, hr⟩ := h i hi
  refine ⟨b, o, e, ?_⟩
  have := hr 0 _ rfl
  rw [Nat.mul_one, Nat.add_zero] at this
  rw [this, List.getD_eq_getElem?_getD, List.getElem?_eq_getElem hi]; rfl
/-- the disk in the variable is d now; nothing else is changed -/
theorem Laid.now {w w1 w2 : World} {p : Nat} {d d' : Dk} {sa : Option Addr} {sc : Nat} {ca : Option Addr} {cc : Nat} (f : Fr0 w w1) (h : Aft w1 w2 p d sa sc ca cc) : Now w w2 p d := ⟨⟨sa, sc, ca, cc, h.at_⟩, (f.weaken (S' := fun i => i = p) (fun _ _ h => h.elim)).trans h.fr⟩
theorem Laid.fr0 {w w1 w2 : World} {p : Nat} {d : Dk} (f : Fr0 w w1) (h : Laid w1 w2 p d) : Now w w2 p d := by
  obtain ⟨⟨sa, sc, h⟩, k⟩ := h
  exact ⟨⟨sa, sc, none, 0, h⟩, (f.weaken (S' := fun i => i = p) (fun _ _ h => h.elim)).trans k⟩
theorem Laid.fr1 {w w1 w2 : World} {p : Nat} {d : Dk} (f : Fr (fun i => i = p) w w1) (h : Laid w1 w2 p d) : Now w w2 p d := by
  obtain ⟨⟨sa, sc, h⟩, k⟩ := h
  exact ⟨⟨sa, sc, none, 0, h⟩, f.trans k⟩
theorem Now.same {w w1 : World} {p : Nat} {d : Dk} {sa : Option Addr} {sc : Nat} {ca : Option Addr} {cc : Nat} (h : DAt w p d sa sc ca cc) (f : Fr0 w w1) : Now w w1 p d := ⟨⟨sa, sc, ca, cc, h.keep f⟩, f.weaken (fun _ _ h => h.elim)⟩
theorem formed_act {d : Dk} : formedB (actD d) = formedB d := by rw [formedB, formedB, actD_S, actD_C]
theorem actE_cases (d : Dk) : actE d = 3 ∨ actE d = 0 := by unfold actE; split; exact .inl rfl; exact .inr rfl
set_option maxHeartbeats 2000000 in
set_option maxRecDepth 100000 in
theorem flush_wrong (p : Nat) (d : Dk) (sa : Option Addr) (sc : Nat) (ca : Option Addr) (cc : Nat) (w : World) (hok : d.ok) (hv : DAt w p d sa sc ca cc) (hr : formedB d = false) : Calls Tryd.prog 8 #[.pointer (some ⟨p, 0, none⟩)] w fun e w' => e = .returned (.int .i64 1) ∧ Now w w' p d := by
  have HRI := Lib.hid (right_calls p 0 d sa sc ca cc w hok hv)
  rw [right0, hr] at HRI
  have HV := Lib.hid hv
  clear hv hok hr
  go_enter Tryd.func8, Tryd.ntmps8
  go_wp2_with (go_at_call 20; (with_reducible refine (HRI.out).mono ?_); rintro e w2 ⟨rfl, hf2⟩; have HF2 := Lib.hid hf2; clear hf2)
  go_ret
  exact ⟨rfl, Now.same HV.out HF2.out⟩
set_option maxHeartbeats 2000000 in
set_option maxRecDepth 100000 in
theorem flush_down (p : Nat) (d : Dk) (sa : Option Addr) (sc : Nat) (ca : Option Addr) (cc : Nat) (w : World) (hok : d.ok) (hv : DAt w p d sa sc ca cc) (hr : formedB d = true) (ha : actE d = 3) : Calls Tryd.prog 8 #[.pointer (some ⟨p, 0, none⟩)] w fun e w' => e = .returned (.int .i64 3) ∧ Now w w' p (actD d) := by
  have HRI := Lib.hid (right_calls p 0 d sa sc ca cc w hok hv)
  rw [right0, hr] at HRI
  have HSP := Lib.hid (fun W (h : Fr0 w W) => spend_calls p d sa sc ca cc W hok (hv.keep h))
  rw [ha] at HSP
  clear hv hok hr ha
  go_enter Tryd.func8, Tryd.ntmps8
  go_wp2_with (first | (go_at_call 20; (with_reducible refine (HRI.out).mono ?_); rintro e w2 ⟨rfl, hf2⟩; have HF2 := Lib.hid hf2; clear hf2) | (go_at_call 21; (with_reducible refine (HSP.out _ HF2.out).mono ?_); rintro e w3 ⟨rfl, hf3⟩; have HA3 := Lib.hid hf3; clear hf3))
  go_ret
  exact ⟨rfl, Laid.now (d' := d) HF2.out HA3.out⟩
set_option maxHeartbeats 2000000 in
set_option maxRecDepth 100000 in
theorem flush_good (p : Nat) (d : Dk) (sa : Option Addr) (sc : Nat) (ca : Option Addr) (cc : Nat) (w : World) (hok : d.ok) (hv : DAt w p d sa sc ca cc) (hr : formedB d = true) (ha : actE d = 0) : Calls Tryd.prog 8 #[.pointer (some ⟨p, 0, none⟩)] w fun e w' => e = .returned (.int .i64 0) ∧ Now w w' p (layD (actD d) (fun _ => true)) := by
  have HRI := Lib.hid (right_calls p 0 d sa sc ca cc w hok hv)
  rw [right0, hr] at HRI
  have HSP := Lib.hid (fun W (h : Fr0 w W) => spend_calls p d sa sc ca cc W hok (hv.keep h))
  rw [ha] at HSP
  have HLA := Lib.hid (fun W (h : DAt W p (actD d) sa sc ca cc) => lay_f_calls p (actD d) sa sc ca cc (fun _ => true) W (actD_ok hok) h (formed_act.trans hr) (fun i W' _ _ => clf_calls i W'))
  clear hv hok hr ha
  go_enter Tryd.func8, Tryd.ntmps8
  go_wp2_with (first | (go_at_call 20; (with_reducible refine (HRI.out).mono ?_); rintro e w2 ⟨rfl, hf2⟩; have HF2 := Lib.hid hf2; clear hf2) | (go_at_call 21; (with_reducible refine (HSP.out _ HF2.out).mono ?_); rintro e w3 ⟨rfl, hf3⟩; have HA3 := Lib.hid hf3; clear hf3) | (go_at_call 22; (with_reducible refine (HLA.out _ HA3.out.at_).mono ?_); rintro e w4 ⟨⟨v4, rfl⟩, hf4⟩; have HA4 := Lib.hid hf4; clear hf4))
  go_ret
  exact ⟨rfl, Laid.fr1 ((HF2.out.weaken (fun _ _ h => h.elim)).trans HA3.out.fr) HA4.out⟩
/-- FLUSH: what disk.Flush does. -/
theorem flush_calls (p : Nat) (d : Dk) (sa : Option Addr) (sc : Nat) (ca : Option Addr) (cc : Nat) (w : World) (hok : d.ok) (hv : DAt w p d sa sc ca cc) : Calls Tryd.prog 8 #[.pointer (some ⟨p, 0, none⟩)] w fun e w' => e = .returned (.int .i64 (flushE d)) ∧ Now w w' p (flushD d) := by
  unfold flushE flushD
  rw [right0]
  cases hr : formedB d with
  | false => rw [if_pos rfl, if_pos rfl]; exact flush_wrong p d sa sc ca cc w hok hv hr
  | true =>
    rw [if_neg (by simp), if_neg (by simp)]
    rcases actE_cases d with ha | ha
    · rw [if_pos ha, ha]; exact flush_down p d sa sc ca cc w hok hv hr ha
    · rw [if_neg (by omega), ha]; exact flush_good p d sa sc ca cc w hok hv hr ha

end Go.Proofs.YtmkmpfnadcmcoaaDoor.DiskFlush
namespace Go.Proofs.YtmkmpfnadcmcoaaDoor.MapKit
open Go Go.RowKit Go.Proofs.YtmkmpfnadcmcoaaDoor.K
open Go.Maps (Keyed IsMap Tidy)
def Dm (l : List Int) : DataW Unit := l.foldl (fun D x => D.put (.int .i64 x) (.lit (.bool true))) (.map [])
theorem Dm_snoc (l : List Int) (x : Int) : Dm (l ++ [x]) = (Dm l).put (.int .i64 x) (.lit (.bool true)) := by simp [Dm]
section
variable {P : Program} {k e t : TypeId}
/-- block b is a map that holds true at the numbers of l -/
def IM (w : World) (P : Program) (k e : TypeId) (b : Nat) (l : List Int) : Prop := w.ownsMap P k (plainElem P e) b l.length (Dm l)
theorem IM.made (w : World) (P : Program) (k e : TypeId) : IM (w.alloc (.map #[] 0)) P k e w.heap.size [] := World.ownsMap_made w P k _
theorem IM.keep {S : Nat → Prop} {w w' : World} {b : Nat} {l : List Int} (h : IM w P k e b l) (f : Fr S w w') (hs : ¬ S b) : IM w' P k e b l := by
  obtain ⟨es, c, hb, h2⟩ := h
  have hlt : b < w.heap.size := by
    rcases Nat.lt_or_ge b w.heap.size with h | h
    · exact h
    · rw [Array.getElem?_eq_none h] at hb; cases hb
  exact ⟨es, c, (f.block b hlt hs).trans hb, h2⟩
theorem IM.lt {w : World} {b : Nat} {l : List Int} (h : IM w P k e b l) : b < w.heap.size := World.ownsMap.lt h
theorem plainElem_bool_inv (he : P.underlying e = some .bool) {v : Value} {z : DataW Unit × List MemPlace} (h : plainElem P e v = some z) : ∃ x, v = .bool x ∧ z = (.lit (.bool x), []) := by
  unfold plainElem at h
  rw [he] at h
  cases v <;> simp at h
  rename_i x
  exact ⟨x, rfl, h.symm⟩
theorem at_Dm (l : List Int) (hl : ∀ x ∈ l, (Lit.int .i64 x).wf = true) (x : Int) (hx : (Lit.int .i64 x).wf = true) : IsMap (Dm l) ∧ (Dm l).atKey (.int .i64 x) (.lit (.bool false)) = .lit (.bool (l.contains x)) := by
  induction h : l.length generalizing l with
  | zero =>
    obtain rfl := List.eq_nil_of_length_eq_zero h
    exact ⟨⟨[], rfl⟩, rfl⟩
  | succ n ih =>
    obtain ⟨l, y, rfl⟩ : ∃ m y, l = m ++ [y] := by
      rcases List.eq_nil_or_concat l with rfl | ⟨m, y, e⟩
      · simp at h
      · exact ⟨m, y, by simpa using e⟩
    obtain ⟨h1, h2⟩ := ih l (fun z hz => hl z (List.mem_append_left _ hz)) (by simpa using h)
    rw [Dm_snoc]
    have hk : WideAt.IsKeyLit (.int .i64 y) := trivial
    refine ⟨h1.put _ _, ?_⟩
    by_cases e1 : x = y
    · subst e1
      rw [Maps.atKey_put_same h1 hk]
      simp
    · rw [Maps.atKey_put_other (by intro h; injection h with _ h; exact e1 h), h2]
      simp [e1]
theorem IM.look {w : World} {b : Nat} {l : List Int} (h : IM w P k e b l) (hk : P.underlying k = some (.int .i64)) (he : P.underlying e = some .bool) (ht : P.underlying t = some (.map k e)) (hz : (zeroValue e).run P w = .ok (.bool false) w) (hl : ∀ x ∈ l, (Lit.int .i64 x).wf = true) (x : Int) (hx : (Lit.int .i64 x).wf = true) : (Instr.lookup t (.map (some b)) (.int .i64 x) false).run P w = .ok (.bool (l.contains x)) w := by
  obtain ⟨v, ps, hrun, hv⟩ := World.ownsMap.lookup h (Maps.int_keyed hk) ht hz (plainElem_bool he false) (Maps.keyOf_int_mk hk hx)
  obtain ⟨y, rfl, h2⟩ := plainElem_bool_inv he hv
  rw [(at_Dm l hl x hx).2] at h2
  simp only [Prod.mk.injEq, DataW.lit.injEq, Lit.bool.injEq] at h2
  rw [hrun, ← h2.1]
theorem IM.put {w : World} {b : Nat} {l : List Int} (h : IM w P k e b l) (hk : P.underlying k = some (.int .i64)) (he : P.underlying e = some .bool) (ht : P.underlying t = some (.map k e)) (x : Int) (hx : (Lit.int .i64 x).wf = true) (hn : l.length < 1000000) : ∃ w', (Instr.mapUpdate t (.map (some b)) (.int .i64 x) (.bool true)).run P w = .ok () w' ∧ IM w' P k e b (l ++ [x]) ∧ Fr (fun i => i = b) w w' := by
  obtain ⟨w', hr, ho, hg⟩ := World.ownsMap.update h (Maps.int_keyed hk) ht (by unfold maxLen; omega) (Maps.keyOf_int_mk hk hx) (plainElem_bool he true)
  refine ⟨w', hr, ?_, ⟨hg.os, hg.tape, hg.output, hg.size, fun i hi hs => hg.block i hi (by intro h; cases h; exact hs rfl)⟩⟩
  unfold IM
  rw [Dm_snoc, List.length_append]
  exact ho
end
end Go.Proofs.YtmkmpfnadcmcoaaDoor.MapKit
namespace Go.Proofs.YtmkmpfnadcmcoaaDoor.RmKit
open Go Go.RowKit Go.Proofs.YtmkmpfnadcmcoaaDoor.K Go.Proofs.YtmkmpfnadcmcoaaDoor.EqKit Go.Proofs.YtmkmpfnadcmcoaaDoor.ArrKit Go.Proofs.YtmkmpfnadcmcoaaDoor.HeldKit Go.Proofs.YtmkmpfnadcmcoaaDoor.GKit Go.Proofs.YtmkmpfnadcmcoaaDoor.GRow Go.Proofs.YtmkmpfnadcmcoaaDoor.DiskKit
structure Rm where
  gen : Int
  ps : List (Int × Int)
def PR (p : Int × Int) : List Value := [.int .i64 p.1, .int .i64 p.2]
theorem PR_len (p : Int × Int) : (PR p).length = 2 := rfl
theorem PR_one (p : Int × Int) : ∀ v ∈ PR p, v.oneCell' = true := fun v hv => by
  simp only [PR, List.mem_cons, List.not_mem_nil, or_false] at hv
  rcases hv with rfl | rfl <;> rfl
def RdP (w : World) (a : Option Addr) (l : List (Int × Int)) : Prop := RdG PR 2 w a l
theorem RdP.keep {w w1 : World} {a : Option Addr} {l : List (Int × Int)} (h : RdP w a l) (f : Fr0 w w1) : RdP w1 a l := RdG.keep h f
structure Rm.ok (m : Rm) : Prop where
  g : (Lit.int .i64 m.gen).wf = true
  p : ∀ x ∈ m.ps, (Lit.int .i64 x.1).wf = true ∧ (Lit.int .i64 x.2).wf = true
def RC (g : Int) (v : Value) : Array Value := #[.int .i64 g, v]
def rval (m : Rm) (a : Option Addr) (c : Nat) : Array Value := RC m.gen (.slice a m.ps.length c)
theorem info_r (g : Int) (v : Value) : (Tryd.prog.info? 32).map (·.size) = some (RC g v).size := by kernel_rfl
theorem info_pr (p : Int × Int) : (Tryd.prog.info? 98).map (·.size) = some (PR p).length := by kernel_rfl
theorem info_pr2 (p : Int × Int) : (Tryd.prog.info? 98).map (·.size) = some (PR p).toArray.size := by kernel_rfl
/-- a table's pairs lie so -/
structure RV (w : World) (m : Rm) (a : Option Addr) (c : Nat) : Prop where
  rd : RdP w a m.ps
  len : m.ps.length ≤ c
  max : c ≤ 9223372036854775807
theorem RV.keep {w w1 : World} {m : Rm} {a : Option Addr} {c : Nat} (h : RV w m a c) (f : Fr0 w w1) : RV w1 m a c := ⟨h.rd.keep f, h.len, h.max⟩
/-- one pair's cells -/
theorem RdP.form {w : World} {a : Option Addr} {l : List (Int × Int)} (h : RdP w a l) {j : Nat} (hj : j < l.length) : ∃ b o, a = some ⟨b, o, none⟩ ∧ ∀ W, RdP W a l → W.rangeAt b (o + j * 2) (PR l[j]) ∧ W.cell? ⟨b, o + j * 2, none⟩ = some (.int .i64 l[j].1) ∧ W.cell? ⟨b, o + j * 2 + 1, none⟩ = some (.int .i64 l[j].2) := by
  obtain ⟨b, o, e, -⟩ := h j hj
  subst e
  refine ⟨b, o, rfl, fun W hW => ?_⟩
  have hr := RdG.at hW hj
  exact ⟨hr, hr 0 _ rfl, hr 1 _ rfl⟩
def half (s : Int) : Int := if s < 28 ∨ 4096 < s ∨ s % 2 = 1 then 0 else (s - 20) / 2
theorem half_lo {s : Int} (h : half s ≠ 0) : 28 ≤ s ∧ s ≤ 4096 ∧ s % 2 = 0 ∧ 2 * half s + 20 = s ∧ 4 ≤ half s := by
  unfold half at h ⊢
  split at h
  · exact absurd rfl h
  · rename_i h1
    rw [if_neg h1]
    omega
theorem half_range (s : Int) : 0 ≤ half s ∧ half s ≤ 2038 := by
  unfold half
  split <;> omega
def usableB (n h : Int) : Bool := decide (0 < h) && decide (0 ≤ n) && decide (n < 2 * h) && decide (1 < n % h)

set_option maxHeartbeats 2000000 in
set_option maxRecDepth 100000 in
theorem half_calls (s : Int) (w : World) (hs : (Lit.int .i64 s).wf = true) : Calls Tryd.prog 42 #[.int .i64 s] w fun e w' => e = .returned (.int .i64 (half s)) ∧ w' = w := by
  by_cases h1 : s < 28
  · have e : half s = 0 := by unfold half; rw [if_pos (.inl h1)]
    rw [e]
    go_enter Tryd.func42, Tryd.ntmps42
    go_wp2
    go_ret
    exact ⟨rfl, rfl⟩
  · by_cases h2 : 4096 < s
    · have e : half s = 0 := by unfold half; rw [if_pos (.inr (.inl h2))]
      rw [e]
      go_enter Tryd.func42, Tryd.ntmps42
      go_wp2
      go_ret
      exact ⟨rfl, rfl⟩
    · have ht : Int.tmod s 2 = s % 2 := Int.tmod_eq_emod_of_nonneg (by omega)
      have hd : Int.tdiv (s - 20) 2 = (s - 20) / 2 := Int.tdiv_eq_ediv_of_nonneg (by omega)
      by_cases h3 : s % 2 = 1
      · have e : half s = 0 := by unfold half; rw [if_pos (.inr (.inr h3))]
        have ht1 : Int.tmod s 2 = 1 := ht.trans h3
        clear ht h3 hd
        rw [e]
        go_enter Tryd.func42, Tryd.ntmps42
        go_wp2
        go_ret
        exact ⟨rfl, rfl⟩
      · have ht1 : Int.tmod s 2 = 0 := by rw [ht]; omega
        have e : half s = (s - 20) / 2 := by unfold half; rw [if_neg (by omega)]
        have hq : Hid (half s = Int.tdiv (s - 20) 2) := Lib.hid (by rw [e, hd])
        have hr : 0 ≤ Int.tdiv (s - 20) 2 ∧ Int.tdiv (s - 20) 2 ≤ 3000 := by rw [hd]; omega
        clear ht h3 hd e
        rw [hq.out]
        go_enter Tryd.func42, Tryd.ntmps42
        go_wp2
        go_ret
        exact ⟨rfl, rfl⟩

set_option maxHeartbeats 2000000 in
set_option maxRecDepth 100000 in
theorem usable_calls (n h : Int) (w : World) (hn : (Lit.int .i64 n).wf = true) (hh : 0 ≤ h ∧ h ≤ 2038) : Calls Tryd.prog 53 #[.int .i64 n, .int .i64 h] w fun e w' => e = .returned (.bool (usableB n h)) ∧ w' = w := by
  by_cases h1 : 0 < h
  case neg =>
    have e : usableB n h = false := by simp [usableB, h1]
    rw [e]
    have hz : h = 0 := by omega
    subst hz
    clear e h1

    go_enter Tryd.func53, Tryd.ntmps53
    go_wp2
    go_ret
    exact ⟨rfl, rfl⟩
  by_cases h2 : 0 ≤ n
  case neg =>
    have e : usableB n h = false := by simp [usableB, h2]
    rw [e]
    clear e
    have h2' : n < 0 := by omega

    go_enter Tryd.func53, Tryd.ntmps53
    go_wp2
    go_ret
    exact ⟨rfl, rfl⟩
  by_cases h3 : n < 2 * h
  case neg =>
    have e : usableB n h = false := by simp [usableB, h3]
    rw [e]
    clear e
    have h3' : 2 * h ≤ n := by omega

    go_enter Tryd.func53, Tryd.ntmps53
    go_wp2
    go_ret
    exact ⟨rfl, rfl⟩
  have ht : Int.tmod n h = n % h := Int.tmod_eq_emod_of_nonneg h2
  have hnz : ¬ h = 0 := by omega
  have hm := Int.emod_nonneg n hnz
  have hm2 := Int.emod_lt_of_pos n h1
  have e : usableB n h = decide (1 < n % h) := by simp [usableB, h1, h2, h3]
  rw [e]
  clear e
  go_enter Tryd.func53, Tryd.ntmps53
  go_wp2
  go_ret
  exact ⟨rfl, rfl⟩

end Go.Proofs.YtmkmpfnadcmcoaaDoor.RmKit
