/- The theorems that the claim uses, text behind text (part 5). -/
import Derived.Test.YtlleandelcjhjaaDoorZad
set_option linter.unusedVariables false
set_option linter.unusedSimpArgs false
namespace Go.Proofs.YtlleandelcjhjaaDoor.DiskLay
open Go Go.RowKit Go.Proofs.YtlleandelcjhjaaDoor.K Go.Proofs.YtlleandelcjhjaaDoor.EqKit Go.Proofs.YtlleandelcjhjaaDoor.ArrKit Go.Proofs.YtlleandelcjhjaaDoor.HeldKit Go.Proofs.YtlleandelcjhjaaDoor.GKit Go.Proofs.YtlleandelcjhjaaDoor.GRow Go.Proofs.YtlleandelcjhjaaDoor.DiskKit Go.Proofs.YtlleandelcjhjaaDoor.DiskAsk Go.Proofs.YtlleandelcjhjaaDoor.DiskForm Go.Proofs.YtlleandelcjhjaaDoor.DiskAct Go.Proofs.YtlleandelcjhjaaDoor.DiskNew Go.Proofs.YtlleandelcjhjaaDoor.DiskCopy
abbrev lyc (cs : Array Value) (o : Nat) (vs : List Value) : Array Value := K.lay cs o vs
theorem laid_len (S : List Sec) (C : List Wri) (keep : Nat → Bool) (k : Nat) : (laid S C keep k).length = S.length := by
  induction k with
  | zero => rfl
  | succ k ih =>
    simp only [laid]
    split
    · split
      · rw [List.length_set]; exact ih
      · exact ih
    · exact ih
theorem laid_succ {S : List Sec} {C : List Wri} {keep : Nat → Bool} {k : Nat} (h : k < C.length) : laid S C keep (k + 1) = if keep k then (laid S C keep k).set C[k].pos.toNat { (laid S C keep k).getD C[k].pos.toNat Zs with data := C[k].data, nr := false } else laid S C keep k := by
  show (match C[k]? with | some x => _ | none => _) = _
  rw [List.getElem?_eq_getElem h]
theorem laid_over {S : List Sec} {C : List Wri} {keep : Nat → Bool} {k : Nat} (h : C.length ≤ k) : laid S C keep (k + 1) = laid S C keep k := by
  show (match C[k]? with | some x => _ | none => _) = _
  rw [List.getElem?_eq_none h]
theorem laid_ok {S : List Sec} {C : List Wri} {keep : Nat → Bool} (hS : ∀ x ∈ S, x.ok) (hC : ∀ x ∈ C, x.ok) (k : Nat) : ∀ x ∈ laid S C keep k, x.ok := by
  induction k with
  | zero => exact hS
  | succ k ih =>
    by_cases h : k < C.length
    · rw [laid_succ h]
      split
      · intro x hx
        rcases List.mem_or_eq_of_mem_set hx with hx | rfl
        · exact ih x hx
        · exact (hC _ (List.getElem_mem h)).len
      · exact ih
    · rw [laid_over (by omega)]
      exact ih
theorem layD_ok {d : Dk} (h : d.ok) (keep : Nat → Bool) : (layD d keep).ok := ⟨laid_ok h.s h.c _, fun x hx => by simp [layD] at hx, h.f⟩
/-- one sector laid anew -/
theorem OwnS.lay1 {w w' : World} {g cap : Nat} {cur : Array Value} {l : List Sec} (h : OwnS w g cap cur l) (hok : ∀ x ∈ l, x.ok) {q : Nat} (hq : q < l.length) (x : Wri) (hx : x.ok)
    (hb : Bk w' g ((lyc cur (q * 130) (x.data.map B)).setIfInBounds (q * 130 + 128) (.bool false)) 59) : OwnS w' g cap ((lyc cur (q * 130) (x.data.map B)).setIfInBounds (q * 130 + 128) (.bool false)) (l.set q { l.getD q Zs with data := x.data, nr := false }) := by
  have hl := hx.len
  have hsz : q * 130 + 130 ≤ cur.size := by rw [h.size]; have := h.room; omega
  have hold : l.getD q Zs = l[q] := by rw [List.getD_eq_getElem?_getD, List.getElem?_eq_getElem hq]; rfl
  refine OwnG.set h (secs_len hok) hq _ (Sec.len (show (Sec.mk x.data false (l.getD q Zs).nw).ok from hl)) w' _ hb (by rw [Array.size_setIfInBounds, lay_size]) (fun j u hj => ?_) (fun m hm => ?_)
  · have hj' : j < 130 := by
      have := (List.getElem?_eq_some_iff.1 hj).1
      rwa [Sec.len (show (Sec.mk x.data false (l.getD q Zs).nw).ok from hl)] at this
    rw [Array.getElem?_setIfInBounds, lay_size]
    by_cases h1 : j < 128
    · rw [if_neg (by omega), lay_get, List.length_map, if_pos (by omega), show q * 130 + j - q * 130 = j by omega]
      rw [Sec.data_at (show (Sec.mk x.data false (l.getD q Zs).nw).ok from hl) h1] at hj
      exact hj
    · rcases (show j = 128 ∨ j = 129 by omega) with rfl | rfl
      · rw [if_pos rfl, if_pos (by omega)]
        rw [Sec.nr_at (show (Sec.mk x.data false (l.getD q Zs).nw).ok from hl)] at hj
        exact hj
      · rw [if_neg (by omega), lay_get, List.length_map, if_neg (by omega)]
        rw [Sec.nw_at (show (Sec.mk x.data false (l.getD q Zs).nw).ok from hl)] at hj
        refine h.here q hq 129 u ?_
        rw [Sec.nw_at (hok _ (List.getElem_mem hq)), ← hold]
        exact hj
  · rw [Array.getElem?_setIfInBounds, if_neg (by omega), lay_get, List.length_map, if_neg (by omega)]
/-- what lay leaves -/
def Laid (w w' : World) (p : Nat) (d : Dk) : Prop := (∃ sa sc, DAt w' p d sa sc none 0) ∧ Fr (fun i => i = p) w w'
theorem RdC.past {w w1 : World} {ca : Option Addr} {l : List Wri} (h : RdC w ca l) (hok : ∀ x ∈ l, x.ok) {p : Nat} {cs : Array Value} (f : Fr (fun i => i = p) w w1) (hb : Bk w p cs 39) (hn : ∀ (j : Nat) (x : Value), cs[j]? = some x → ∀ v : UInt8, x ≠ B v) : RdC w1 ca l :=
  RdG.later h f (fun a e hl => by subst e; exact RdC.apart h hl hok hb hn)

set_option maxHeartbeats 2000000 in
set_option maxRecDepth 100000 in
theorem lay_c_empty (kp : Nat) (p : Nat) (d : Dk) (sa : Option Addr) (sc : Nat) (ca : Option Addr) (cc : Nat) (keep : Nat → Bool) (w : World) (hok : d.ok) (hv : DAt w p d sa sc ca cc) (h0 : d.C = []) : Calls Tryd.prog 59 #[.pointer (some ⟨p, 0, none⟩), .func (.func 60) #[] #[.pointer (some ⟨kp, 0, none⟩)]] w fun e w' => (∃ v, e = .returned v) ∧ Laid w w' p (layD d keep) := by
  have HV := Lib.hid hv
  have HOK := Lib.hid hok
  clear hv hok
  obtain ⟨SS, CC, ff, dd⟩ := d
  subst h0
  have q1 : w.cell? ⟨p, 1, none⟩ = some (.slice ca 0 cc) := Bk.cell HV.out.blk 1
  have f1 := Bk.free HV.out.blk 1
  go_enter Tryd.func59, Tryd.ntmps59
  go_wp2
  go_loopw [25] (fun i wr => i = .int .i64 0 ∧ wr = w) (fun _ _ => 0)
  case atStart => exact ⟨rfl, rfl⟩
  case round =>
    obtain ⟨rfl, rfl⟩ := hrel
    go_wp2
    go_end0
    refine ⟨⟨_, rfl⟩, ⟨sa, sc, Bk.set HV.out.blk 1 _, ?_⟩, Fr.set1 _ _ _ _⟩
    have := HV.out.v.past HOK.out (Fr.set1 _ p 1 (.slice none 0 0)) HV.out.blk (dval_no _ _ _ _ _)
    exact ⟨this.rs, RdG.nil _ _, this.sn, this.sm, Nat.le_refl _, by omega⟩

set_option maxHeartbeats 2000000 in
set_option maxRecDepth 100000 in
theorem lay_f_empty (p : Nat) (d : Dk) (sa : Option Addr) (sc : Nat) (ca : Option Addr) (cc : Nat) (keep : Nat → Bool) (w : World) (hok : d.ok) (hv : DAt w p d sa sc ca cc) (h0 : d.C = []) : Calls Tryd.prog 59 #[.pointer (some ⟨p, 0, none⟩), .func (.func 77) #[] #[]] w fun e w' => (∃ v, e = .returned v) ∧ Laid w w' p (layD d keep) := by
  have HV := Lib.hid hv
  have HOK := Lib.hid hok
  clear hv hok
  obtain ⟨SS, CC, ff, dd⟩ := d
  subst h0
  have q1 : w.cell? ⟨p, 1, none⟩ = some (.slice ca 0 cc) := Bk.cell HV.out.blk 1
  have f1 := Bk.free HV.out.blk 1
  go_enter Tryd.func59, Tryd.ntmps59
  go_wp2
  go_loopw [25] (fun i wr => i = .int .i64 0 ∧ wr = w) (fun _ _ => 0)
  case atStart => exact ⟨rfl, rfl⟩
  case round =>
    obtain ⟨rfl, rfl⟩ := hrel
    go_wp2
    go_end0
    refine ⟨⟨_, rfl⟩, ⟨sa, sc, Bk.set HV.out.blk 1 _, ?_⟩, Fr.set1 _ _ _ _⟩
    have := HV.out.v.past HOK.out (Fr.set1 _ p 1 (.slice none 0 0)) HV.out.blk (dval_no _ _ _ _ _)
    exact ⟨this.rs, RdG.nil _ _, this.sn, this.sm, Nat.le_refl _, by omega⟩

def ZWA : Array Value := (Wri.mk 0 Z128).cells.toArray
theorem formed_parts {d : Dk} (h : formedB d = true) : 1 ≤ d.S.length ∧ d.S.length ≤ 4096 ∧ ∀ k (h : k < d.C.length), 0 ≤ d.C[k].pos ∧ d.C[k].pos < d.S.length := by
  rw [formedB, Bool.and_eq_true, decide_eq_true_eq] at h
  refine ⟨h.2.1, h.2.2, fun k hk => ?_⟩
  have := List.all_eq_true.1 h.1 _ (List.getElem_mem hk)
  exact thereB_true.1 this

set_option maxHeartbeats 2000000 in
set_option maxRecDepth 100000 in
theorem lay_c_some (kp : Nat) (p : Nat) (d : Dk) (sa : Option Addr) (sc : Nat) (ca : Option Addr) (cc : Nat) (keep : Nat → Bool) (w : World) (hok : d.ok) (hv : DAt w p d sa sc ca cc) (h0 : 0 < d.C.length) (hr : formedB d = true)
    (hk : ∀ (i : Nat) (W : World), i < d.C.length → Fr (fun i => i = p) w W → Calls Tryd.prog 60 #[.int .i64 i, .pointer (some ⟨kp, 0, none⟩)] W fun e w' => e = .returned (.bool (keep i)) ∧ Fr0 W w') : Calls Tryd.prog 59 #[.pointer (some ⟨p, 0, none⟩), .func (.func 60) #[] #[.pointer (some ⟨kp, 0, none⟩)]] w fun e w' => (∃ v, e = .returned v) ∧ Laid w w' p (layD d keep) := by
  have hfm := formed_parts hr
  have HCL := Lib.hid (clone_calls sa sc d.S w hv.v.rs hok.s (by omega) (by omega))
  have HK := Lib.hid hk
  have HV := Lib.hid hv
  have HOK := Lib.hid hok
  have hcn := hv.v.cn
  have hcm := hv.v.cm
  have hn1 := hfm.1
  have hn2 := hfm.2.1
  have HPOS := Lib.hid hfm.2.2
  have hpw : p < w.heap.size := Bk.lt hv.blk
  clear hk hv hok hr hfm
  have hzw : ∀ W, (zeroValue 79).run Tryd.prog W = .ok (.agg ZWA) W := by intro W; kernel_rfl
  obtain ⟨SS, CC, ff, dd⟩ := d
  dsimp only at *
  have q0 : w.cell? ⟨p, 0, none⟩ = some (.slice sa SS.length sc) := Bk.cell HV.out.blk 0
  have q1 : w.cell? ⟨p, 1, none⟩ = some (.slice ca CC.length cc) := Bk.cell HV.out.blk 1
  have f1 := Bk.free HV.out.blk 1
  have f0 := Bk.free HV.out.blk 0
  go_enter Tryd.func59, Tryd.ntmps59
  go_wp2_with (go_at_call 61; (with_reducible refine HCL.out.mono ?_); rintro e w1 ⟨g, cap, cur, rfl, hge, hown, hfr⟩; have hp1 : p < w1.heap.size := hfr.lt hpw; have p0 : w1.cell? ⟨p, 0, none⟩ = some (.slice sa SS.length sc) := (hfr.cell p 0 hpw (fun h => h)).trans q0; have p1 : w1.cell? ⟨p, 1, none⟩ = some (.slice ca CC.length cc) := (hfr.cell p 1 hpw (fun h => h)).trans q1; have g0 : w1.frozen? ⟨p, 0, none⟩ = false := (hfr.froz p 0 hpw (fun h => h)).trans f0; have g1 : w1.frozen? ⟨p, 1, none⟩ = false := (hfr.froz p 1 hpw (fun h => h)).trans f1; have HB1 : Hid (Bk (w1.setCell ⟨p, 0, none⟩ (.slice (some ⟨g, 0, none⟩) SS.length cap)) p (DC (.slice (some ⟨g, 0, none⟩) SS.length cap) (.slice ca CC.length cc) ff dd) 39) := Lib.hid (Bk.set (hfr.keep HV.out.blk (fun h => h)) 0 _); have HO1 : Hid (OwnS (w1.setCell ⟨p, 0, none⟩ (.slice (some ⟨g, 0, none⟩) SS.length cap)) g cap cur SS) := Lib.hid (OwnG.keep hown (Fr.set1 _ _ _ _) (by omega)); have HF1 : Hid (Fr (fun i => i = p) w (w1.setCell ⟨p, 0, none⟩ (.slice (some ⟨g, 0, none⟩) SS.length cap))) := Lib.hid (Fr.set (hfr.weaken (fun _ _ h => h.elim)) _ _ (.inr rfl)); have HGE := Lib.hid hge; clear hfr hown hge)
  clear q0 q1 f0 f1 p0 p1 g0 g1
  generalize hw0 : w1.setCell _ _ = w0 at *
  clear hw0 hp1
  go_loopw [25] (fun i wr => ∃ k cur, k ≤ CC.length ∧ i = .int .i64 (k : Nat) ∧ OwnS wr g cap cur (laid SS CC keep k) ∧ Bk wr p (DC (.slice (some ⟨g, 0, none⟩) SS.length cap) (.slice ca CC.length cc) ff dd) 39 ∧ Fr (fun i => i = p) w wr) (fun i _ => CC.length - (intOf i).toNat)
  case atStart => exact ⟨0, cur, Nat.zero_le _, rfl, HO1.out, HB1.out, HF1.out⟩
  case round =>
    clear HB1 HO1 HF1
    obtain ⟨k, cur, hk, rfl, hO, hB, hF⟩ := hrel
    have HOR := Lib.hid hO
    have HBR := Lib.hid hB
    have HFR := Lib.hid hF
    have hgr := Bk.lt hO.blk
    have hpr := Bk.lt hB
    clear hO hB hF
    have p1 : wr.cell? ⟨p, 1, none⟩ = some (.slice ca CC.length cc) := Bk.cell HBR.out 1
    have g1 := Bk.free HBR.out 1
    by_cases hlt : k < CC.length
    · obtain ⟨b, o, rfl, hrg⟩ := (RdC.past HV.out.v.rc HOK.out.c HFR.out HV.out.blk (dval_no _ _ _ _ _)) k hlt
      have HRG := Lib.hid hrg
      have HX := Lib.hid (HOK.out.c _ (List.getElem_mem hlt))
      have HIX : Hid ((Tryd.prog.info? 79).map (·.size) = some CC[k].cells.length) := Lib.hid (by rw [Wri.leng HX.out, info_w])
      have HIY : Hid ((Tryd.prog.info? 79).map (·.size) = some CC[k].cells.toArray.size) := Lib.hid (by rw [List.size_toArray, Wri.leng HX.out, info_w])
      have HZY : Hid (ZWA.size = CC[k].cells.toArray.size) := Lib.hid ((show ZWA.size = 129 from ZWC_cells).trans (by rw [List.size_toArray, Wri.leng HX.out]))
      have HOY : Hid (CC[k].cells.toArray.all (·.oneCell') = true) := Lib.hid (all_oneCell_toArray (Wri.one _))
      have HKK := Lib.hid (fun W h => HK.out k W hlt h)
      have hnx : wr.heap.size ≠ p := by omega
      have hng : wr.heap.size ≠ g := by omega
      have hgp : g ≠ p := by have := HGE.out; omega
      have HW0 := Lib.hid (Bk.new wr (.cells ZWA 79))
      have HWX : Hid (Bk ((wr.alloc (.cells ZWA 79)).setRow wr.heap.size CC[k].cells.toArray) wr.heap.size CC[k].cells.toArray 79) := Lib.hid (ArrKit.Bk.row HW0.out _)
      have HWB : Hid (Bk ((wr.alloc (.cells ZWA 79)).setRow wr.heap.size CC[k].cells.toArray) p (DC (.slice (some ⟨g, 0, none⟩) SS.length cap) (.slice (some ⟨b, o, none⟩) CC.length cc) ff dd) 39) := Lib.hid (ArrKit.Bk.rowOther (Bk.alloc HBR.out _) _ hnx.symm)
      have HWO : Hid (OwnS ((wr.alloc (.cells ZWA 79)).setRow wr.heap.size CC[k].cells.toArray) g cap cur (laid SS CC keep k)) := Lib.hid (OwnG.keep (OwnG.keep HOR.out (Fr.alloc (Fr.refl (fun _ => False) _) _) (fun h => h)) (Fr.row1 _ _ _) hng.symm)
      have HWF : Hid (Fr (fun i => i = p) w ((wr.alloc (.cells ZWA 79)).setRow wr.heap.size CC[k].cells.toArray)) := Lib.hid (ArrKit.Fr.row (Fr.alloc HFR.out _) _ _ (.inl HFR.out.size))
      obtain ⟨q, hq⟩ : ∃ q : Nat, CC[k].pos = (q : Int) := ⟨CC[k].pos.toNat, by have := HPOS.out k hlt; omega⟩
      have hqn : q < SS.length := by have := HPOS.out k hlt; omega
      have HQ := Lib.hid hq
      clear hrg hq
      cases hkk : keep k with
      | false =>
        have HKV := Lib.hid hkk
        rw [hkk] at HKK
        clear hkk
        go_wp2_with (first | ((with_reducible show wpList _ _ _ ({ dst := _, op := Op.load 79 _, type := _, pos := _, after := _, guard := _ } :: _) _ _); refine wpList_load_mid rfl 79 _ rfl b (o + k * 129) rfl CC[k].cells _ HRG.out Tryd.underlying79 rfl HIX.out ?_) | ((with_reducible show wpList _ _ _ ({ dst := _, op := Op.store 79 _ _, type := _, pos := _, after := _, guard := _ } :: _) _ _); refine wpList_store_row rfl 79 _ _ rfl wr.heap.size CC[k].cells.toArray rfl rfl 79 ZWA HW0.out HIY.out HZY.out HOY.out ?_) | (go_at_call 60; (with_reducible refine (HKK.out _ HWF.out).mono ?_); rintro e w2 ⟨rfl, hf2⟩; have HF2 := Lib.hid (HWF.out.then0 hf2); have HB2 := Lib.hid (hf2.keep HWB.out (fun h => h)); have HO2 := Lib.hid (OwnG.keep HWO.out hf2 (fun h => h)); clear hf2))
        go_roundw
        case rel => exact ⟨k + 1, cur, by omega, by go_num, by rw [laid_succ hlt, HKV.out]; exact HO2.out, HB2.out, HF2.out⟩
        case measure => simp [intOf]; omega
      | true =>
        have HKV := Lib.hid hkk
        rw [hkk] at HKK
        clear hkk
        go_wp2_with (first | ((with_reducible show wpList _ _ _ ({ dst := _, op := Op.load 79 _, type := _, pos := _, after := _, guard := _ } :: _) _ _); refine wpList_load_mid rfl 79 _ rfl b (o + k * 129) rfl CC[k].cells _ HRG.out Tryd.underlying79 rfl HIX.out ?_) | ((with_reducible show wpList _ _ _ ({ dst := _, op := Op.store 79 _ _, type := _, pos := _, after := _, guard := _ } :: _) _ _); refine wpList_store_row rfl 79 _ _ rfl wr.heap.size CC[k].cells.toArray rfl rfl 79 ZWA HW0.out HIY.out HZY.out HOY.out ?_) | (go_at_call 60; (with_reducible refine (HKK.out _ HWF.out).mono ?_); rintro e w2 ⟨rfl, hf2⟩; have HF2 := Lib.hid (HWF.out.then0 hf2); have HB2 := Lib.hid (hf2.keep HWB.out (fun h => h)); have HX2 := Lib.hid (hf2.keep HWX.out (fun h => h)); have HO2 := Lib.hid (OwnG.keep HWO.out hf2 (fun h => h)); clear hf2))
        have hqo : q * 130 + 130 ≤ cur.size := by have h1 := HO2.out.size; have h2 := HO2.out.room; rw [laid_len] at h2; omega
        have HST : Hid (Stand [(p, .cells (DC (.slice (some ⟨g, 0, none⟩) SS.length cap) (.slice (some ⟨b, o, none⟩) CC.length cc) ff dd) 39 (0, 0)), (wr.heap.size, .cells CC[k].cells.toArray 79 (0, 0))] w2) := Lib.hid (Stand.cons HB2.out (Stand.cons HX2.out (Stand.nil _)))
        have HBd : Hid (Bk w2.drew p (DC (.slice (some ⟨g, 0, none⟩) SS.length cap) (.slice (some ⟨b, o, none⟩) CC.length cc) ff dd) 39) := Lib.hid HB2.out
        have HGd : Hid (Bk w2.drew g cur 59) := Lib.hid HO2.out.blk
        have HFd : Hid (Fr (fun i => i = p) w w2.drew) := Lib.hid (Fr.drew HF2.out)
        have HX0 : Hid (CC[k].cells.toArray[0]? = some (.int .i64 (q : Int))) := Lib.hid (by rw [← HQ.out]; simp [Wri.cells])
        have HXD : Hid (∀ W : World, W.heap[wr.heap.size]? = some (.cells CC[k].cells.toArray 79 (0, 0)) → W.rangeAt (wr.heap.size) 1 (CC[k].data.map B)) := Lib.hid (fun W h j u hj => by
          rw [Bk.cell h, List.getElem?_toArray, Nat.add_comm, Wri.data_at]
          exact hj)
        have HIB : Hid ((Tryd.prog.info? 27).map (·.size) = some (CC[k].data.map B).length) := Lib.hid (by rw [List.length_map, HX.out.len, info_b])
        have HIC : Hid ((Tryd.prog.info? 27).map (·.size) = some (CC[k].data.map B).toArray.size) := Lib.hid (by rw [List.size_toArray, List.length_map, HX.out.len, info_b])
        have HOB : Hid ((CC[k].data.map B).toArray.all (·.oneCell') = true) := Lib.hid (by simp [B, Value.oneCell'])
        have HTH : Hid (w2.drew.there g (q * 130) (CC[k].data.map B).toArray.size) := Lib.hid (there_bk HGd.out _ _ (by rw [List.size_toArray, List.length_map, HX.out.len]; omega))
        have HOO := Lib.hid HO2.out
        clear HB2 HX2 HO2 HF2 p1 g1
        refine wp_region_noPanic ?_
        refine wp_region_held_drew (S := (Stand [(p, .cells (DC (.slice (some ⟨g, 0, none⟩) SS.length cap) (.slice (some ⟨b, o, none⟩) CC.length cc) ff dd) 39 (0, 0)), (wr.heap.size, .cells CC[k].cells.toArray 79 (0, 0))])) (by kernel_rfl) (Stand.drew HST.out) (fun hHeld0 => ?_)
        generalize w2.drew = wd at *
        refine tk0 (i := 0) (v := .pointer (some ⟨p, 0, none⟩)) rfl hHeld0 ?_
        simp only [Act.put, zA, zB, zC, zD, zE, zF]
        refine tk0 (i := 1) (v := .pointer (some ⟨p, 0, none⟩)) rfl hHeld0 ?_
        simp only [Act.put, zA, zB, zC, zD, zE, zF]
        refine tk0 (i := 2) (v := .pointer (some ⟨p, 0, none⟩)) rfl hHeld0 ?_
        simp only [Act.put, zA, zB, zC, zD, zE, zF]
        refine tk (i := 3) (v := .slice (some ⟨g, 0, none⟩) SS.length cap) rfl (Or.inl ⟨by kernel_rfl, fun w hSw => by have hcl := (fun W h => Bk.cell (Stand.a0 h) 0) w hSw; go_simp⟩) hHeld0 ?_
        simp only [Act.put, zA, zB, zC, zD, zE, zF]
        refine tk0 (i := 4) (v := .pointer (some ⟨wr.heap.size, 0, none⟩)) rfl hHeld0 ?_
        simp only [Act.put, zA, zB, zC, zD, zE, zF]
        refine tk (i := 5) (v := .int .i64 (q : Int)) rfl (Or.inl ⟨by kernel_rfl, fun w hSw => by have hcl := (fun W h => (Bk.cell (Stand.a0 (Stand.tl h)) 0).trans HX0.out) w hSw; go_simp⟩) hHeld0 ?_
        simp only [Act.put, zA, zB, zC, zD, zE, zF]
        refine tk0 (i := 6) (v := .pointer (some ⟨wr.heap.size, 1, none⟩)) rfl hHeld0 ?_
        simp only [Act.put, zA, zB, zC, zD, zE, zF]
        refine tk (i := 7) (v := .agg (CC[k].data.map B).toArray) rfl (yieldsIf_load_mid (by kernel_rfl) 27 _ rfl (wr.heap.size) 1 rfl (CC[k].data.map B) _ (fun W h => HXD.out W (Stand.a0 (Stand.tl h))) Tryd.underlying27 rfl HIB.out) hHeld0 ?_
        simp only [Act.put, zA, zB, zC, zD, zE, zF]
        refine tk (i := 8) (v := .pointer (some ⟨g, q * 130, none⟩)) rfl (Or.inl ⟨by kernel_rfl, fun w hSw => by go_simp⟩) hHeld0 ?_
        simp only [Act.put, zA, zB, zC, zD, zE, zF]
        refine tk0 (i := 9) (v := .pointer (some ⟨g, q * 130, none⟩)) rfl hHeld0 ?_
        simp only [Act.put, zA, zB, zC, zD, zE, zF]
        change wpAnyH _ _ _ _ _ 1 #[true, true, true, true, true, true, true, true, true, true, false] _ _
        refine wpAnyH_ready (rs := [10]) (by kernel_rfl) (by simp) ?_
        refine AllReadyH.cons rfl (fun K hK => ?_) AllReadyH.nil
        simp only [zA, zB, zC]
        refine (if_pos (by kernel_rfl)).mpr ?_
        refine wp_store_mid 27 _ _ rfl g (q * 130) (CC[k].data.map B).toArray rfl rfl HTH.out HIC.out HOB.out ?_
        refine hK.out _ _ (Stand.fr hHeld0 (Fr.sets1 _ _ _ _) (fun r hr => by simp only [List.mem_cons, List.not_mem_nil, or_false] at hr; rcases hr with rfl | rfl; exact hgp.symm; exact hng)) (fun hHeld1 => ?_)
        clear hK K hHeld0
        have HG3 : Hid (Bk (wd.setCells g (q * 130) (CC[k].data.map B).toArray.toList) g (lyc cur (q * 130) (CC[k].data.map B)) 59) := Lib.hid (sets_bk _ _ _ _ HGd.out)
        have HB3 : Hid (Bk (wd.setCells g (q * 130) (CC[k].data.map B).toArray.toList) p (DC (.slice (some ⟨g, 0, none⟩) SS.length cap) (.slice (some ⟨b, o, none⟩) CC.length cc) ff dd) 39) := Lib.hid ((Fr.sets1 wd g (q * 130) _).keep HBd.out hgp.symm)
        have HF3 : Hid (Fr (fun i => i = p) w (wd.setCells g (q * 130) (CC[k].data.map B).toArray.toList)) := Lib.hid (Fr.newG HFd.out (Fr.sets1 wd g (q * 130) _) HGE.out)
        generalize (wd.setCells g (q * 130) (CC[k].data.map B).toArray.toList) = w3 at *
        change wpAnyH _ _ _ _ _ 0 #[true, true, true, true, true, true, true, true, true, true, true] _ _
        refine wpAnyH_done (by kernel_rfl) ?_ _
        refine NoPanic.normal ?_
        have HEND := Lib.hid hHeld1
        clear hHeld1
        have hs3 : (lyc cur (q * 130) (CC[k].data.map B)).size = cur.size := lay_size _ _ _
        go_wp2_with fail
        clear HST
        have HST := Lib.hid HEND.out
        have HBe : Hid (Bk w3.drew p (DC (.slice (some ⟨g, 0, none⟩) SS.length cap) (.slice (some ⟨b, o, none⟩) CC.length cc) ff dd) 39) := Lib.hid HB3.out
        have HGe : Hid (Bk w3.drew g (lyc cur (q * 130) (CC[k].data.map B)) 59) := Lib.hid HG3.out
        have HFe : Hid (Fr (fun i => i = p) w w3.drew) := Lib.hid (Fr.drew HF3.out)
        clear HEND HB3 HG3 HF3
        refine wp_region_noPanic ?_
        refine wp_region_held_drew (S := (Stand [(p, .cells (DC (.slice (some ⟨g, 0, none⟩) SS.length cap) (.slice (some ⟨b, o, none⟩) CC.length cc) ff dd) 39 (0, 0)), (wr.heap.size, .cells CC[k].cells.toArray 79 (0, 0))])) (by kernel_rfl) (Stand.drew HST.out) (fun hHeld0 => ?_)
        generalize w3.drew = we at *
        refine tk0 (i := 0) (v := .pointer (some ⟨p, 0, none⟩)) rfl hHeld0 ?_
        simp only [Act.put, zA, zB, zC, zD, zE, zF]
        refine tk0 (i := 1) (v := .pointer (some ⟨p, 0, none⟩)) rfl hHeld0 ?_
        simp only [Act.put, zA, zB, zC, zD, zE, zF]
        refine tk0 (i := 2) (v := .pointer (some ⟨p, 0, none⟩)) rfl hHeld0 ?_
        simp only [Act.put, zA, zB, zC, zD, zE, zF]
        refine tk (i := 3) (v := .slice (some ⟨g, 0, none⟩) SS.length cap) rfl (Or.inl ⟨by kernel_rfl, fun w hSw => by have hcl := (fun W h => Bk.cell (Stand.a0 h) 0) w hSw; go_simp⟩) hHeld0 ?_
        simp only [Act.put, zA, zB, zC, zD, zE, zF]
        refine tk0 (i := 4) (v := .pointer (some ⟨wr.heap.size, 0, none⟩)) rfl hHeld0 ?_
        simp only [Act.put, zA, zB, zC, zD, zE, zF]
        refine tk (i := 5) (v := .int .i64 (q : Int)) rfl (Or.inl ⟨by kernel_rfl, fun w hSw => by have hcl := (fun W h => (Bk.cell (Stand.a0 (Stand.tl h)) 0).trans HX0.out) w hSw; go_simp⟩) hHeld0 ?_
        simp only [Act.put, zA, zB, zC, zD, zE, zF]
        refine tk (i := 6) (v := .pointer (some ⟨g, q * 130, none⟩)) rfl (Or.inl ⟨by kernel_rfl, fun w hSw => by go_simp⟩) hHeld0 ?_
        simp only [Act.put, zA, zB, zC, zD, zE, zF]
        refine tk0 (i := 7) (v := .pointer (some ⟨g, q * 130 + 128, none⟩)) rfl hHeld0 ?_
        simp only [Act.put, zA, zB, zC, zD, zE, zF]
        change wpAnyH _ _ _ _ _ 1 #[true, true, true, true, true, true, true, true, false] _ _
        refine wpAnyH_ready (rs := [8]) (by kernel_rfl) (by simp) ?_
        refine AllReadyH.cons rfl (fun K hK => ?_) AllReadyH.nil
        simp only [zA, zB, zC]
        refine (if_pos (by kernel_rfl)).mpr ?_
        obtain ⟨u9, hu9⟩ : ∃ u, we.cell? ⟨g, q * 130 + 128, none⟩ = some u := ⟨_, (Bk.cell HGe.out _).trans (Array.getElem?_eq_getElem (by omega))⟩
        have hf9 := Bk.free HGe.out (q * 130 + 128)
        go_wp2_with fail
        clear hu9 hf9
        have HG4 : Hid (Bk (we.setCell ⟨g, q * 130 + 128, none⟩ (.bool false)) g ((lyc cur (q * 130) (CC[k].data.map B)).setIfInBounds (q * 130 + 128) (.bool false)) 59) := Lib.hid (Bk.set HGe.out _ _)
        have HB4 : Hid (Bk (we.setCell ⟨g, q * 130 + 128, none⟩ (.bool false)) p (DC (.slice (some ⟨g, 0, none⟩) SS.length cap) (.slice (some ⟨b, o, none⟩) CC.length cc) ff dd) 39) := Lib.hid ((Fr.set1 we g (q * 130 + 128) _).keep HBe.out hgp.symm)
        have HF4 : Hid (Fr (fun i => i = p) w (we.setCell ⟨g, q * 130 + 128, none⟩ (.bool false))) := Lib.hid (Fr.newG HFe.out (Fr.set1 we g (q * 130 + 128) _) HGE.out)
        refine hK.out _ _ (Stand.fr hHeld0 (Fr.set1 _ _ _ _) (fun r hr => by simp only [List.mem_cons, List.not_mem_nil, or_false] at hr; rcases hr with rfl | rfl; exact hgp.symm; exact hng)) (fun hHeld1 => ?_)
        clear hK K hHeld0
        generalize (we.setCell ⟨g, q * 130 + 128, none⟩ (.bool false)) = wy0 at *
        change wpAnyH _ _ _ _ _ 0 #[true, true, true, true, true, true, true, true, true] _ _
        refine wpAnyH_done (by kernel_rfl) ?_ _
        refine NoPanic.normal ?_
        have HEND := Lib.hid hHeld1
        clear hHeld1
        go_wp2_with fail
        go_roundw
        case rel => exact ⟨k + 1, _, by omega, by go_num, by
          rw [laid_succ hlt, HKV.out, if_pos rfl, HQ.out, Int.toNat_natCast]
          exact OwnS.lay1 HOO.out (laid_ok HOK.out.s HOK.out.c k) (by rw [laid_len]; exact hqn) CC[k] HX.out HG4.out, HB4.out, HF4.out⟩
        case measure => simp [intOf]; omega
    · obtain rfl : k = CC.length := by omega
      clear hlt
      go_wp2
      go_end0
      refine ⟨⟨_, rfl⟩, ⟨some ⟨g, 0, none⟩, cap, ?_, ?_⟩, Fr.set HFR.out _ _ (.inr rfl)⟩
      · have := Bk.set HBR.out 1 (.slice none 0 0)
        simp only [layD, dval, laid_len]
        exact this
      · have hgp : g ≠ p := by have := HGE.out; omega
        have := OwnG.keep HOR.out (Fr.set1 wr p 1 (.slice none 0 0)) hgp
        exact ⟨this.rd, RdG.nil _ _, this.room, this.max, Nat.le_refl _, by omega⟩

set_option maxHeartbeats 2000000 in
set_option maxRecDepth 100000 in
theorem lay_f_some (p : Nat) (d : Dk) (sa : Option Addr) (sc : Nat) (ca : Option Addr) (cc : Nat) (keep : Nat → Bool) (w : World) (hok : d.ok) (hv : DAt w p d sa sc ca cc) (h0 : 0 < d.C.length) (hr : formedB d = true)
    (hk : ∀ (i : Nat) (W : World), i < d.C.length → Fr (fun i => i = p) w W → Calls Tryd.prog 77 #[.int .i64 i] W fun e w' => e = .returned (.bool (keep i)) ∧ Fr0 W w') : Calls Tryd.prog 59 #[.pointer (some ⟨p, 0, none⟩), .func (.func 77) #[] #[]] w fun e w' => (∃ v, e = .returned v) ∧ Laid w w' p (layD d keep) := by
  have hfm := formed_parts hr
  have HCL := Lib.hid (clone_calls sa sc d.S w hv.v.rs hok.s (by omega) (by omega))
  have HK := Lib.hid hk
  have HV := Lib.hid hv
  have HOK := Lib.hid hok
  have hcn := hv.v.cn
  have hcm := hv.v.cm
  have hn1 := hfm.1
  have hn2 := hfm.2.1
  have HPOS := Lib.hid hfm.2.2
  have hpw : p < w.heap.size := Bk.lt hv.blk
  clear hk hv hok hr hfm
  have hzw : ∀ W, (zeroValue 79).run Tryd.prog W = .ok (.agg ZWA) W := by intro W; kernel_rfl
  obtain ⟨SS, CC, ff, dd⟩ := d
  dsimp only at *
  have q0 : w.cell? ⟨p, 0, none⟩ = some (.slice sa SS.length sc) := Bk.cell HV.out.blk 0
  have q1 : w.cell? ⟨p, 1, none⟩ = some (.slice ca CC.length cc) := Bk.cell HV.out.blk 1
  have f1 := Bk.free HV.out.blk 1
  have f0 := Bk.free HV.out.blk 0
  go_enter Tryd.func59, Tryd.ntmps59
  go_wp2_with (go_at_call 61; (with_reducible refine HCL.out.mono ?_); rintro e w1 ⟨g, cap, cur, rfl, hge, hown, hfr⟩; have hp1 : p < w1.heap.size := hfr.lt hpw; have p0 : w1.cell? ⟨p, 0, none⟩ = some (.slice sa SS.length sc) := (hfr.cell p 0 hpw (fun h => h)).trans q0; have p1 : w1.cell? ⟨p, 1, none⟩ = some (.slice ca CC.length cc) := (hfr.cell p 1 hpw (fun h => h)).trans q1; have g0 : w1.frozen? ⟨p, 0, none⟩ = false := (hfr.froz p 0 hpw (fun h => h)).trans f0; have g1 : w1.frozen? ⟨p, 1, none⟩ = false := (hfr.froz p 1 hpw (fun h => h)).trans f1; have HB1 : Hid (Bk (w1.setCell ⟨p, 0, none⟩ (.slice (some ⟨g, 0, none⟩) SS.length cap)) p (DC (.slice (some ⟨g, 0, none⟩) SS.length cap) (.slice ca CC.length cc) ff dd) 39) := Lib.hid (Bk.set (hfr.keep HV.out.blk (fun h => h)) 0 _); have HO1 : Hid (OwnS (w1.setCell ⟨p, 0, none⟩ (.slice (some ⟨g, 0, none⟩) SS.length cap)) g cap cur SS) := Lib.hid (OwnG.keep hown (Fr.set1 _ _ _ _) (by omega)); have HF1 : Hid (Fr (fun i => i = p) w (w1.setCell ⟨p, 0, none⟩ (.slice (some ⟨g, 0, none⟩) SS.length cap))) := Lib.hid (Fr.set (hfr.weaken (fun _ _ h => h.elim)) _ _ (.inr rfl)); have HGE := Lib.hid hge; clear hfr hown hge)
  clear q0 q1 f0 f1 p0 p1 g0 g1
  generalize hw0 : w1.setCell _ _ = w0 at *
  clear hw0 hp1
  go_loopw [25] (fun i wr => ∃ k cur, k ≤ CC.length ∧ i = .int .i64 (k : Nat) ∧ OwnS wr g cap cur (laid SS CC keep k) ∧ Bk wr p (DC (.slice (some ⟨g, 0, none⟩) SS.length cap) (.slice ca CC.length cc) ff dd) 39 ∧ Fr (fun i => i = p) w wr) (fun i _ => CC.length - (intOf i).toNat)
  case atStart => exact ⟨0, cur, Nat.zero_le _, rfl, HO1.out, HB1.out, HF1.out⟩
  case round =>
    clear HB1 HO1 HF1
    obtain ⟨k, cur, hk, rfl, hO, hB, hF⟩ := hrel
    have HOR := Lib.hid hO
    have HBR := Lib.hid hB
    have HFR := Lib.hid hF
    have hgr := Bk.lt hO.blk
    have hpr := Bk.lt hB
    clear hO hB hF
    have p1 : wr.cell? ⟨p, 1, none⟩ = some (.slice ca CC.length cc) := Bk.cell HBR.out 1
    have g1 := Bk.free HBR.out 1
    by_cases hlt : k < CC.length
    · obtain ⟨b, o, rfl, hrg⟩ := (RdC.past HV.out.v.rc HOK.out.c HFR.out HV.out.blk (dval_no _ _ _ _ _)) k hlt
      have HRG := Lib.hid hrg
      have HX := Lib.hid (HOK.out.c _ (List.getElem_mem hlt))
      have HIX : Hid ((Tryd.prog.info? 79).map (·.size) = some CC[k].cells.length) := Lib.hid (by rw [Wri.leng HX.out, info_w])
      have HIY : Hid ((Tryd.prog.info? 79).map (·.size) = some CC[k].cells.toArray.size) := Lib.hid (by rw [List.size_toArray, Wri.leng HX.out, info_w])
      have HZY : Hid (ZWA.size = CC[k].cells.toArray.size) := Lib.hid ((show ZWA.size = 129 from ZWC_cells).trans (by rw [List.size_toArray, Wri.leng HX.out]))
      have HOY : Hid (CC[k].cells.toArray.all (·.oneCell') = true) := Lib.hid (all_oneCell_toArray (Wri.one _))
      have HKK := Lib.hid (fun W h => HK.out k W hlt h)
      have hnx : wr.heap.size ≠ p := by omega
      have hng : wr.heap.size ≠ g := by omega
      have hgp : g ≠ p := by have := HGE.out; omega
      have HW0 := Lib.hid (Bk.new wr (.cells ZWA 79))
      have HWX : Hid (Bk ((wr.alloc (.cells ZWA 79)).setRow wr.heap.size CC[k].cells.toArray) wr.heap.size CC[k].cells.toArray 79) := Lib.hid (ArrKit.Bk.row HW0.out _)
      have HWB : Hid (Bk ((wr.alloc (.cells ZWA 79)).setRow wr.heap.size CC[k].cells.toArray) p (DC (.slice (some ⟨g, 0, none⟩) SS.length cap) (.slice (some ⟨b, o, none⟩) CC.length cc) ff dd) 39) := Lib.hid (ArrKit.Bk.rowOther (Bk.alloc HBR.out _) _ hnx.symm)
      have HWO : Hid (OwnS ((wr.alloc (.cells ZWA 79)).setRow wr.heap.size CC[k].cells.toArray) g cap cur (laid SS CC keep k)) := Lib.hid (OwnG.keep (OwnG.keep HOR.out (Fr.alloc (Fr.refl (fun _ => False) _) _) (fun h => h)) (Fr.row1 _ _ _) hng.symm)
      have HWF : Hid (Fr (fun i => i = p) w ((wr.alloc (.cells ZWA 79)).setRow wr.heap.size CC[k].cells.toArray)) := Lib.hid (ArrKit.Fr.row (Fr.alloc HFR.out _) _ _ (.inl HFR.out.size))
      obtain ⟨q, hq⟩ : ∃ q : Nat, CC[k].pos = (q : Int) := ⟨CC[k].pos.toNat, by have := HPOS.out k hlt; omega⟩
      have hqn : q < SS.length := by have := HPOS.out k hlt; omega
      have HQ := Lib.hid hq
      clear hrg hq
      cases hkk : keep k with
      | false =>
        have HKV := Lib.hid hkk
        rw [hkk] at HKK
        clear hkk
        go_wp2_with (first | ((with_reducible show wpList _ _ _ ({ dst := _, op := Op.load 79 _, type := _, pos := _, after := _, guard := _ } :: _) _ _); refine wpList_load_mid rfl 79 _ rfl b (o + k * 129) rfl CC[k].cells _ HRG.out Tryd.underlying79 rfl HIX.out ?_) | ((with_reducible show wpList _ _ _ ({ dst := _, op := Op.store 79 _ _, type := _, pos := _, after := _, guard := _ } :: _) _ _); refine wpList_store_row rfl 79 _ _ rfl wr.heap.size CC[k].cells.toArray rfl rfl 79 ZWA HW0.out HIY.out HZY.out HOY.out ?_) | (go_at_call 77; (with_reducible refine (HKK.out _ HWF.out).mono ?_); rintro e w2 ⟨rfl, hf2⟩; have HF2 := Lib.hid (HWF.out.then0 hf2); have HB2 := Lib.hid (hf2.keep HWB.out (fun h => h)); have HO2 := Lib.hid (OwnG.keep HWO.out hf2 (fun h => h)); clear hf2))
        go_roundw
        case rel => exact ⟨k + 1, cur, by omega, by go_num, by rw [laid_succ hlt, HKV.out]; exact HO2.out, HB2.out, HF2.out⟩
        case measure => simp [intOf]; omega
      | true =>
        have HKV := Lib.hid hkk
        rw [hkk] at HKK
        clear hkk
        go_wp2_with (first | ((with_reducible show wpList _ _ _ ({ dst := _, op := Op.load 79 _, type := _, pos := _, after := _, guard := _ } :: _) _ _); refine wpList_load_mid rfl 79 _ rfl b (o + k * 129) rfl CC[k].cells _ HRG.out Tryd.underlying79 rfl HIX.out ?_) | ((with_reducible show wpList _ _ _ ({ dst := _, op := Op.store 79 _ _, type := _, pos := _, after := _, guard := _ } :: _) _ _); refine wpList_store_row rfl 79 _ _ rfl wr.heap.size CC[k].cells.toArray rfl rfl 79 ZWA HW0.out HIY.out HZY.out HOY.out ?_) | (go_at_call 77; (with_reducible refine (HKK.out _ HWF.out).mono ?_); rintro e w2 ⟨rfl, hf2⟩; have HF2 := Lib.hid (HWF.out.then0 hf2); have HB2 := Lib.hid (hf2.keep HWB.out (fun h => h)); have HX2 := Lib.hid (hf2.keep HWX.out (fun h => h)); have HO2 := Lib.hid (OwnG.keep HWO.out hf2 (fun h => h)); clear hf2))
        have hqo : q * 130 + 130 ≤ cur.size := by have h1 := HO2.out.size; have h2 := HO2.out.room; rw [laid_len] at h2; omega
        have HST : Hid (Stand [(p, .cells (DC (.slice (some ⟨g, 0, none⟩) SS.length cap) (.slice (some ⟨b, o, none⟩) CC.length cc) ff dd) 39 (0, 0)), (wr.heap.size, .cells CC[k].cells.toArray 79 (0, 0))] w2) := Lib.hid (Stand.cons HB2.out (Stand.cons HX2.out (Stand.nil _)))
        have HBd : Hid (Bk w2.drew p (DC (.slice (some ⟨g, 0, none⟩) SS.length cap) (.slice (some ⟨b, o, none⟩) CC.length cc) ff dd) 39) := Lib.hid HB2.out
        have HGd : Hid (Bk w2.drew g cur 59) := Lib.hid HO2.out.blk
        have HFd : Hid (Fr (fun i => i = p) w w2.drew) := Lib.hid (Fr.drew HF2.out)
        have HX0 : Hid (CC[k].cells.toArray[0]? = some (.int .i64 (q : Int))) := Lib.hid (by rw [← HQ.out]; simp [Wri.cells])
        have HXD : Hid (∀ W : World, W.heap[wr.heap.size]? = some (.cells CC[k].cells.toArray 79 (0, 0)) → W.rangeAt (wr.heap.size) 1 (CC[k].data.map B)) := Lib.hid (fun W h j u hj => by
          rw [Bk.cell h, List.getElem?_toArray, Nat.add_comm, Wri.data_at]
          exact hj)
        have HIB : Hid ((Tryd.prog.info? 27).map (·.size) = some (CC[k].data.map B).length) := Lib.hid (by rw [List.length_map, HX.out.len, info_b])
        have HIC : Hid ((Tryd.prog.info? 27).map (·.size) = some (CC[k].data.map B).toArray.size) := Lib.hid (by rw [List.size_toArray, List.length_map, HX.out.len, info_b])
        have HOB : Hid ((CC[k].data.map B).toArray.all (·.oneCell') = true) := Lib.hid (by simp [B, Value.oneCell'])
        have HTH : Hid (w2.drew.there g (q * 130) (CC[k].data.map B).toArray.size) := Lib.hid (there_bk HGd.out _ _ (by rw [List.size_toArray, List.length_map, HX.out.len]; omega))
        have HOO := Lib.hid HO2.out
        clear HB2 HX2 HO2 HF2 p1 g1
        refine wp_region_noPanic ?_
        refine wp_region_held_drew (S := (Stand [(p, .cells (DC (.slice (some ⟨g, 0, none⟩) SS.length cap) (.slice (some ⟨b, o, none⟩) CC.length cc) ff dd) 39 (0, 0)), (wr.heap.size, .cells CC[k].cells.toArray 79 (0, 0))])) (by kernel_rfl) (Stand.drew HST.out) (fun hHeld0 => ?_)
        generalize w2.drew = wd at *
        refine tk0 (i := 0) (v := .pointer (some ⟨p, 0, none⟩)) rfl hHeld0 ?_
        simp only [Act.put, zA, zB, zC, zD, zE, zF]
        refine tk0 (i := 1) (v := .pointer (some ⟨p, 0, none⟩)) rfl hHeld0 ?_
        simp only [Act.put, zA, zB, zC, zD, zE, zF]
        refine tk0 (i := 2) (v := .pointer (some ⟨p, 0, none⟩)) rfl hHeld0 ?_
        simp only [Act.put, zA, zB, zC, zD, zE, zF]
        refine tk (i := 3) (v := .slice (some ⟨g, 0, none⟩) SS.length cap) rfl (Or.inl ⟨by kernel_rfl, fun w hSw => by have hcl := (fun W h => Bk.cell (Stand.a0 h) 0) w hSw; go_simp⟩) hHeld0 ?_
        simp only [Act.put, zA, zB, zC, zD, zE, zF]
        refine tk0 (i := 4) (v := .pointer (some ⟨wr.heap.size, 0, none⟩)) rfl hHeld0 ?_
        simp only [Act.put, zA, zB, zC, zD, zE, zF]
        refine tk (i := 5) (v := .int .i64 (q : Int)) rfl (Or.inl ⟨by kernel_rfl, fun w hSw => by have hcl := (fun W h => (Bk.cell (Stand.a0 (Stand.tl h)) 0).trans HX0.out) w hSw; go_simp⟩) hHeld0 ?_
        simp only [Act.put, zA, zB, zC, zD, zE, zF]
        refine tk0 (i := 6) (v := .pointer (some ⟨wr.heap.size, 1, none⟩)) rfl hHeld0 ?_
        simp only [Act.put, zA, zB, zC, zD, zE, zF]
        refine tk (i := 7) (v := .agg (CC[k].data.map B).toArray) rfl (yieldsIf_load_mid (by kernel_rfl) 27 _ rfl (wr.heap.size) 1 rfl (CC[k].data.map B) _ (fun W h => HXD.out W (Stand.a0 (Stand.tl h))) Tryd.underlying27 rfl HIB.out) hHeld0 ?_
        simp only [Act.put, zA, zB, zC, zD, zE, zF]
        refine tk (i := 8) (v := .pointer (some ⟨g, q * 130, none⟩)) rfl (Or.inl ⟨by kernel_rfl, fun w hSw => by go_simp⟩) hHeld0 ?_
        simp only [Act.put, zA, zB, zC, zD, zE, zF]
        refine tk0 (i := 9) (v := .pointer (some ⟨g, q * 130, none⟩)) rfl hHeld0 ?_
        simp only [Act.put, zA, zB, zC, zD, zE, zF]
        change wpAnyH _ _ _ _ _ 1 #[true, true, true, true, true, true, true, true, true, true, false] _ _
        refine wpAnyH_ready (rs := [10]) (by kernel_rfl) (by simp) ?_
        refine AllReadyH.cons rfl (fun K hK => ?_) AllReadyH.nil
        simp only [zA, zB, zC]
        refine (if_pos (by kernel_rfl)).mpr ?_
        refine wp_store_mid 27 _ _ rfl g (q * 130) (CC[k].data.map B).toArray rfl rfl HTH.out HIC.out HOB.out ?_
        refine hK.out _ _ (Stand.fr hHeld0 (Fr.sets1 _ _ _ _) (fun r hr => by simp only [List.mem_cons, List.not_mem_nil, or_false] at hr; rcases hr with rfl | rfl; exact hgp.symm; exact hng)) (fun hHeld1 => ?_)
        clear hK K hHeld0
        have HG3 : Hid (Bk (wd.setCells g (q * 130) (CC[k].data.map B).toArray.toList) g (lyc cur (q * 130) (CC[k].data.map B)) 59) := Lib.hid (sets_bk _ _ _ _ HGd.out)
        have HB3 : Hid (Bk (wd.setCells g (q * 130) (CC[k].data.map B).toArray.toList) p (DC (.slice (some ⟨g, 0, none⟩) SS.length cap) (.slice (some ⟨b, o, none⟩) CC.length cc) ff dd) 39) := Lib.hid ((Fr.sets1 wd g (q * 130) _).keep HBd.out hgp.symm)
        have HF3 : Hid (Fr (fun i => i = p) w (wd.setCells g (q * 130) (CC[k].data.map B).toArray.toList)) := Lib.hid (Fr.newG HFd.out (Fr.sets1 wd g (q * 130) _) HGE.out)
        generalize (wd.setCells g (q * 130) (CC[k].data.map B).toArray.toList) = w3 at *
        change wpAnyH _ _ _ _ _ 0 #[true, true, true, true, true, true, true, true, true, true, true] _ _
        refine wpAnyH_done (by kernel_rfl) ?_ _
        refine NoPanic.normal ?_
        have HEND := Lib.hid hHeld1
        clear hHeld1
        have hs3 : (lyc cur (q * 130) (CC[k].data.map B)).size = cur.size := lay_size _ _ _
        go_wp2_with fail
        clear HST
        have HST := Lib.hid HEND.out
        have HBe : Hid (Bk w3.drew p (DC (.slice (some ⟨g, 0, none⟩) SS.length cap) (.slice (some ⟨b, o, none⟩) CC.length cc) ff dd) 39) := Lib.hid HB3.out
        have HGe : Hid (Bk w3.drew g (lyc cur (q * 130) (CC[k].data.map B)) 59) := Lib.hid HG3.out
        have HFe : Hid (Fr (fun i => i = p) w w3.drew) := Lib.hid (Fr.drew HF3.out)
        clear HEND HB3 HG3 HF3
        refine wp_region_noPanic ?_
        refine wp_region_held_drew (S := (Stand [(p, .cells (DC (.slice (some ⟨g, 0, none⟩) SS.length cap) (.slice (some ⟨b, o, none⟩) CC.length cc) ff dd) 39 (0, 0)), (wr.heap.size, .cells CC[k].cells.toArray 79 (0, 0))])) (by kernel_rfl) (Stand.drew HST.out) (fun hHeld0 => ?_)
        generalize w3.drew = we at *
        refine tk0 (i := 0) (v := .pointer (some ⟨p, 0, none⟩)) rfl hHeld0 ?_
        simp only [Act.put, zA, zB, zC, zD, zE, zF]
        refine tk0 (i := 1) (v := .pointer (some ⟨p, 0, none⟩)) rfl hHeld0 ?_
        simp only [Act.put, zA, zB, zC, zD, zE, zF]
        refine tk0 (i := 2) (v := .pointer (some ⟨p, 0, none⟩)) rfl hHeld0 ?_
        simp only [Act.put, zA, zB, zC, zD, zE, zF]
        refine tk (i := 3) (v := .slice (some ⟨g, 0, none⟩) SS.length cap) rfl (Or.inl ⟨by kernel_rfl, fun w hSw => by have hcl := (fun W h => Bk.cell (Stand.a0 h) 0) w hSw; go_simp⟩) hHeld0 ?_
        simp only [Act.put, zA, zB, zC, zD, zE, zF]
        refine tk0 (i := 4) (v := .pointer (some ⟨wr.heap.size, 0, none⟩)) rfl hHeld0 ?_
        simp only [Act.put, zA, zB, zC, zD, zE, zF]
        refine tk (i := 5) (v := .int .i64 (q : Int)) rfl (Or.inl ⟨by kernel_rfl, fun w hSw => by have hcl := (fun W h => (Bk.cell (Stand.a0 (Stand.tl h)) 0).trans HX0.out) w hSw; go_simp⟩) hHeld0 ?_
        simp only [Act.put, zA, zB, zC, zD, zE, zF]
        refine tk (i := 6) (v := .pointer (some ⟨g, q * 130, none⟩)) rfl (Or.inl ⟨by kernel_rfl, fun w hSw => by go_simp⟩) hHeld0 ?_
        simp only [Act.put, zA, zB, zC, zD, zE, zF]
        refine tk0 (i := 7) (v := .pointer (some ⟨g, q * 130 + 128, none⟩)) rfl hHeld0 ?_
        simp only [Act.put, zA, zB, zC, zD, zE, zF]
        change wpAnyH _ _ _ _ _ 1 #[true, true, true, true, true, true, true, true, false] _ _
        refine wpAnyH_ready (rs := [8]) (by kernel_rfl) (by simp) ?_
        refine AllReadyH.cons rfl (fun K hK => ?_) AllReadyH.nil
        simp only [zA, zB, zC]
        refine (if_pos (by kernel_rfl)).mpr ?_
        obtain ⟨u9, hu9⟩ : ∃ u, we.cell? ⟨g, q * 130 + 128, none⟩ = some u := ⟨_, (Bk.cell HGe.out _).trans (Array.getElem?_eq_getElem (by omega))⟩
        have hf9 := Bk.free HGe.out (q * 130 + 128)
        go_wp2_with fail
        clear hu9 hf9
        have HG4 : Hid (Bk (we.setCell ⟨g, q * 130 + 128, none⟩ (.bool false)) g ((lyc cur (q * 130) (CC[k].data.map B)).setIfInBounds (q * 130 + 128) (.bool false)) 59) := Lib.hid (Bk.set HGe.out _ _)
        have HB4 : Hid (Bk (we.setCell ⟨g, q * 130 + 128, none⟩ (.bool false)) p (DC (.slice (some ⟨g, 0, none⟩) SS.length cap) (.slice (some ⟨b, o, none⟩) CC.length cc) ff dd) 39) := Lib.hid ((Fr.set1 we g (q * 130 + 128) _).keep HBe.out hgp.symm)
        have HF4 : Hid (Fr (fun i => i = p) w (we.setCell ⟨g, q * 130 + 128, none⟩ (.bool false))) := Lib.hid (Fr.newG HFe.out (Fr.set1 we g (q * 130 + 128) _) HGE.out)
        refine hK.out _ _ (Stand.fr hHeld0 (Fr.set1 _ _ _ _) (fun r hr => by simp only [List.mem_cons, List.not_mem_nil, or_false] at hr; rcases hr with rfl | rfl; exact hgp.symm; exact hng)) (fun hHeld1 => ?_)
        clear hK K hHeld0
        generalize (we.setCell ⟨g, q * 130 + 128, none⟩ (.bool false)) = wy0 at *
        change wpAnyH _ _ _ _ _ 0 #[true, true, true, true, true, true, true, true, true] _ _
        refine wpAnyH_done (by kernel_rfl) ?_ _
        refine NoPanic.normal ?_
        have HEND := Lib.hid hHeld1
        clear hHeld1
        go_wp2_with fail
        go_roundw
        case rel => exact ⟨k + 1, _, by omega, by go_num, by
          rw [laid_succ hlt, HKV.out, if_pos rfl, HQ.out, Int.toNat_natCast]
          exact OwnS.lay1 HOO.out (laid_ok HOK.out.s HOK.out.c k) (by rw [laid_len]; exact hqn) CC[k] HX.out HG4.out, HB4.out, HF4.out⟩
        case measure => simp [intOf]; omega
    · obtain rfl : k = CC.length := by omega
      clear hlt
      go_wp2
      go_end0
      refine ⟨⟨_, rfl⟩, ⟨some ⟨g, 0, none⟩, cap, ?_, ?_⟩, Fr.set HFR.out _ _ (.inr rfl)⟩
      · have := Bk.set HBR.out 1 (.slice none 0 0)
        simp only [layD, dval, laid_len]
        exact this
      · have hgp : g ≠ p := by have := HGE.out; omega
        have := OwnG.keep HOR.out (Fr.set1 wr p 1 (.slice none 0 0)) hgp
        exact ⟨this.rd, RdG.nil _ _, this.room, this.max, Nat.le_refl _, by omega⟩

/-- LAY: what disk.lay does. -/
theorem lay_c_calls (kp : Nat) (p : Nat) (d : Dk) (sa : Option Addr) (sc : Nat) (ca : Option Addr) (cc : Nat) (keep : Nat → Bool) (w : World) (hok : d.ok) (hv : DAt w p d sa sc ca cc) (hr : formedB d = true)
    (hk : ∀ (i : Nat) (W : World), i < d.C.length → Fr (fun i => i = p) w W → Calls Tryd.prog 60 #[.int .i64 i, .pointer (some ⟨kp, 0, none⟩)] W fun e w' => e = .returned (.bool (keep i)) ∧ Fr0 W w') : Calls Tryd.prog 59 #[.pointer (some ⟨p, 0, none⟩), .func (.func 60) #[] #[.pointer (some ⟨kp, 0, none⟩)]] w fun e w' => (∃ v, e = .returned v) ∧ Laid w w' p (layD d keep) := by
  by_cases h0 : 0 < d.C.length
  · exact lay_c_some kp p d sa sc ca cc keep w hok hv h0 hr hk
  · exact lay_c_empty kp p d sa sc ca cc keep w hok hv (List.eq_nil_of_length_eq_zero (by omega))

/-- LAY: what disk.lay does. -/
theorem lay_f_calls (p : Nat) (d : Dk) (sa : Option Addr) (sc : Nat) (ca : Option Addr) (cc : Nat) (keep : Nat → Bool) (w : World) (hok : d.ok) (hv : DAt w p d sa sc ca cc) (hr : formedB d = true)
    (hk : ∀ (i : Nat) (W : World), i < d.C.length → Fr (fun i => i = p) w W → Calls Tryd.prog 77 #[.int .i64 i] W fun e w' => e = .returned (.bool (keep i)) ∧ Fr0 W w') : Calls Tryd.prog 59 #[.pointer (some ⟨p, 0, none⟩), .func (.func 77) #[] #[]] w fun e w' => (∃ v, e = .returned v) ∧ Laid w w' p (layD d keep) := by
  by_cases h0 : 0 < d.C.length
  · exact lay_f_some p d sa sc ca cc keep w hok hv h0 hr hk
  · exact lay_f_empty p d sa sc ca cc keep w hok hv (List.eq_nil_of_length_eq_zero (by omega))

end Go.Proofs.YtlleandelcjhjaaDoor.DiskLay
