/- The theorems that the claim uses, text behind text (part 17). -/
import Derived.Test.YtmkmpfnadcmcoaaDoorZac
import Derived.Test.YtmkmpfnadcmcoaaDoorZap
import Derived.Laws.BitsAllLaws
set_option maxRecDepth 100000
set_option linter.unusedVariables false
set_option linter.unusedSimpArgs false
namespace Go.Proofs.YtmkmpfnadcmcoaaDoor.DiskHit
open Go Go.RowKit Go.Proofs.YtmkmpfnadcmcoaaDoor.K Go.Proofs.YtmkmpfnadcmcoaaDoor.EqKit Go.Proofs.YtmkmpfnadcmcoaaDoor.ArrKit Go.Proofs.YtmkmpfnadcmcoaaDoor.HeldKit Go.Proofs.YtmkmpfnadcmcoaaDoor.GKit Go.Proofs.YtmkmpfnadcmcoaaDoor.GRow Go.Proofs.YtmkmpfnadcmcoaaDoor.DiskKit Go.Proofs.YtmkmpfnadcmcoaaDoor.DiskAsk Go.Proofs.YtmkmpfnadcmcoaaDoor.DiskForm Go.Proofs.YtmkmpfnadcmcoaaDoor.DiskAct Go.Proofs.YtmkmpfnadcmcoaaDoor.DiskNew Go.Proofs.YtmkmpfnadcmcoaaDoor.DiskCopy Go.Proofs.YtmkmpfnadcmcoaaDoor.DiskLay Go.Proofs.YtmkmpfnadcmcoaaDoor.DiskFlush
def hitS (s : Sec) (kind place : Int) (y : UInt8) : Sec :=
  if kind = 1 then { s with data := s.data.set place.toNat (s.data.getD place.toNat 0 ^^^ y) } else if kind = 2 then { s with nr := true } else { s with nw := true }
def hitOK (kind place : Int) : Bool := decide ((kind = 1 ∧ 0 ≤ place ∧ place < 128) ∨ kind = 2 ∨ kind = 3)
def hitD (d : Dk) (a kind place : Int) (y : UInt8) : Dk := if (rightB d a && hitOK kind place) = true then { d with S := d.S.set a.toNat (hitS (secAt d a) kind place y) } else d
theorem hitS_ok {s : Sec} (h : s.ok) (kind place : Int) (y : UInt8) : (hitS s kind place y).ok := by
  have hl : s.data.length = 128 := h
  unfold hitS Sec.ok
  split
  · rw [List.length_set]; exact hl
  · split <;> exact hl
theorem hitD_ok {d : Dk} (h : d.ok) (a kind place : Int) (y : UInt8) : (hitD d a kind place y).ok := by
  unfold hitD
  split
  · refine ⟨fun x hx => ?_, h.c, h.f⟩
    rcases List.mem_or_eq_of_mem_set hx with hx | rfl
    · exact h.s x hx
    · refine hitS_ok ?_ kind place y
      unfold secAt
      rw [List.getD_eq_getElem?_getD]
      by_cases hi : a.toNat < d.S.length
      · rw [List.getElem?_eq_getElem hi]; exact h.s _ (List.getElem_mem hi)
      · rw [List.getElem?_eq_none (by omega)]; exact Zs_ok
  · exact h
theorem set_cells {s t : Sec} (hs : s.ok) (ht : t.ok) (j : Nat) (u : Value) (hj : t.cells[j]? = some u) (ho : ∀ i, i ≠ j → t.cells[i]? = s.cells[i]?) : s.cells.toArray.setIfInBounds j u = t.cells.toArray := by
  apply Array.ext_getElem?
  intro i
  have hlt := (List.getElem?_eq_some_iff.1 hj).1
  rw [Sec.len ht] at hlt
  rw [Array.getElem?_setIfInBounds, List.size_toArray, Sec.len hs, List.getElem?_toArray, List.getElem?_toArray]
  by_cases e : j = i
  · subst e; rw [if_pos rfl, if_pos hlt]; exact hj.symm
  · rw [if_neg e]; exact (ho i (fun h => e h.symm)).symm
theorem hit1_cells {s : Sec} (hs : s.ok) {m : Nat} (hm : m < 128) (y : UInt8) : s.cells.toArray.setIfInBounds m (B (s.data.getD m 0 ^^^ y)) = ({ s with data := s.data.set m (s.data.getD m 0 ^^^ y) } : Sec).cells.toArray := by
  have hl : s.data.length = 128 := hs
  have ht : ({ s with data := s.data.set m (s.data.getD m 0 ^^^ y) } : Sec).ok := by show (s.data.set m _).length = 128; rw [List.length_set]; exact hl
  refine set_cells hs ht m _ ?_ (fun i hi => ?_)
  · rw [Sec.data_at ht hm, List.getElem?_map, List.getElem?_set, if_pos rfl, if_pos (by omega)]; rfl
  · by_cases h : i < 128
    · rw [Sec.data_at ht h, Sec.data_at hs h, List.getElem?_map, List.getElem?_map, List.getElem?_set, if_neg (fun e => hi e.symm)]
    · rcases (show i = 128 ∨ i = 129 ∨ 130 ≤ i by omega) with rfl | rfl | h
      · rw [Sec.nr_at ht, Sec.nr_at hs]
      · rw [Sec.nw_at ht, Sec.nw_at hs]
      · rw [List.getElem?_eq_none (by rw [Sec.len ht]; omega), List.getElem?_eq_none (by rw [Sec.len hs]; omega)]
theorem hit2_cells {s : Sec} (hs : s.ok) (b : Bool) : s.cells.toArray.setIfInBounds 128 (.bool b) = ({ s with nr := b } : Sec).cells.toArray := by
  have ht : ({ s with nr := b } : Sec).ok := hs
  refine set_cells hs ht 128 _ (Sec.nr_at ht) (fun i hi => ?_)
  by_cases h : i < 128
  · rw [Sec.data_at ht h, Sec.data_at hs h]
  · rcases (show i = 129 ∨ 130 ≤ i by omega) with rfl | h
    · rw [Sec.nw_at ht, Sec.nw_at hs]
    · rw [List.getElem?_eq_none (by rw [Sec.len ht]; omega), List.getElem?_eq_none (by rw [Sec.len hs]; omega)]
theorem hit3_cells {s : Sec} (hs : s.ok) (b : Bool) : s.cells.toArray.setIfInBounds 129 (.bool b) = ({ s with nw := b } : Sec).cells.toArray := by
  have ht : ({ s with nw := b } : Sec).ok := hs
  refine set_cells hs ht 129 _ (Sec.nw_at ht) (fun i hi => ?_)
  by_cases h : i < 128
  · rw [Sec.data_at ht h, Sec.data_at hs h]
  · rcases (show i = 128 ∨ 130 ≤ i by omega) with rfl | h
    · rw [Sec.nr_at ht, Sec.nr_at hs]
    · rw [List.getElem?_eq_none (by rw [Sec.len ht]; omega), List.getElem?_eq_none (by rw [Sec.len hs]; omega)]
theorem xor_B (a b : UInt8) : bits .xor .u8 (a.toNat : Int) (b.toNat : Int) = ((a ^^^ b).toNat : Int) := by
  rw [u8_xor_nat a.toNat b.toNat a.toNat_lt b.toNat_lt, UInt8.toNat_xor]

theorem hv2S {w : World} {p : Nat} {d : Dk} {sa : Option Addr} {sc : Nat} {ca : Option Addr} {cc : Nat} (h : DAt w p d sa sc ca cc) : RdG Sec.cells 130 w sa d.S := h.v.rs

set_option maxHeartbeats 2000000 in
set_option maxRecDepth 100000 in
theorem hit_k1 (p : Nat) (a kind place : Int) (y : UInt8) (d : Dk) (sa : Option Addr) (sc : Nat) (ca : Option Addr) (cc : Nat) (w : World) (hok : d.ok) (hv : DAt w p d sa sc ca cc) (hr : rightB d a = true) (h1 : kind = 1) (h2 : 0 ≤ place) (h3 : place < 128) : Calls Tryd.prog 9 #[.pointer (some ⟨p, 0, none⟩), .int .i64 a, .int .i64 kind, .int .i64 place, .int .u8 (y.toNat : Int)] w fun e w' => e = .returned (.int .i64 0) ∧ Now w w' p { d with S := d.S.set a.toNat (hitS (secAt d a) kind place y) } := by
  have HRI := Lib.hid (right_calls p a d sa sc ca cc w hok hv)
  have HV := Lib.hid hv
  have hrt := hr
  rw [rightB, Bool.and_eq_true] at hrt
  have htt := thereB_true.1 hrt.1
  have hfm := formed_parts hrt.2
  have ha0 := htt.1
  have ha1 := htt.2
  have hq : a.toNat < d.S.length := by omega
  have hsn := hv.v.sn
  have hsm := hv.v.sm
  have hn2 := hfm.2.1
  have HSX : Hid (secAt d a = d.S[a.toNat]) := Lib.hid (by rw [secAt, List.getD_eq_getElem?_getD, List.getElem?_eq_getElem hq]; rfl)
  have HOK := Lib.hid hok
  obtain ⟨sb, so, hso, -⟩ := hv.v.rs _ hq
  subst hso
  have hsok : d.S[a.toNat].ok := hok.s _ (List.getElem_mem hq)
  have HSO := Lib.hid hsok
  have HIS : Hid ((Tryd.prog.info? 46).map (·.size) = some d.S[a.toNat].cells.length) := Lib.hid (by rw [Sec.len hsok, info_s])
  have HIT : Hid ((Tryd.prog.info? 46).map (·.size) = some d.S[a.toNat].cells.toArray.size) := Lib.hid (by rw [List.size_toArray, Sec.len hsok, info_s])
  have HZT : Hid (ZSC.size = d.S[a.toNat].cells.toArray.size) := Lib.hid ((show ZSC.size = 130 from ZSC_cells).trans (by rw [List.size_toArray, Sec.len hsok]))
  have HOT : Hid (d.S[a.toNat].cells.toArray.all (·.oneCell') = true) := Lib.hid (all_oneCell_toArray (Sec.one _))
  have hzs : ∀ W, (zeroValue 46).run Tryd.prog W = .ok (.agg ZSC) W := by intro W; kernel_rfl
  have hpw : p < w.heap.size := Bk.lt hv.blk
  rw [hr] at HRI
  clear htt hrt hfm hsok
  obtain ⟨vv, hvv⟩ : ∃ vv : UInt8, d.S[a.toNat].data.getD place.toNat 0 = vv := ⟨_, rfl⟩
  have HVV := Lib.hid hvv
  obtain ⟨zz, hzz⟩ : ∃ zz : UInt8, vv ^^^ y = zz := ⟨_, rfl⟩
  have HZZ := Lib.hid hzz
  clear hvv hzz
  have HHS : Hid (hitS (secAt d a) kind place y = ({ d.S[a.toNat] with data := d.S[a.toNat].data.set place.toNat zz } : Sec)) := Lib.hid (by rw [HSX.out]; unfold hitS; rw [if_pos h1, HVV.out, HZZ.out])
  have HCL : Hid (∀ W, DAt W p d (some ⟨sb, so, none⟩) sc ca cc → Calls Tryd.prog 24 #[.slice (some ⟨sb, so, none⟩) d.S.length sc] W fun e w' => ∃ g cap cur, e = .returned (.slice (some ⟨g, 0, none⟩) d.S.length cap) ∧ W.heap.size ≤ g ∧ OwnS w' g cap cur d.S ∧ Fr0 W w') := Lib.hid (fun W h => clone_calls (some ⟨sb, so, none⟩) sc d.S W h.v.rs hok.s (by omega) (by omega))
  have c1 : (kind == 1) = true := by simpa using h1
  have c2 : decide (place < 0) = false := decide_eq_false (by omega)
  have c3 : decide (128 ≤ place) = false := decide_eq_false (by omega)
  have HVJ : Hid (d.S[a.toNat].cells[place.toNat]? = some (.int .u8 (vv.toNat : Int))) := Lib.hid (by
    have hl : d.S[a.toNat].data.length = 128 := HSO.out
    rw [← HVV.out, Sec.data_at HSO.out (by omega), List.getElem?_map, List.getD_eq_getElem?_getD, List.getElem?_eq_getElem (by omega)]; rfl)
  have hxr : bits .xor .u8 (vv.toNat : Int) (y.toNat : Int) = (zz.toNat : Int) := (xor_B vv y).trans (by rw [HZZ.out])
  have HCS : Hid (d.S[a.toNat].cells.toArray.setIfInBounds place.toNat (B zz) = ({ d.S[a.toNat] with data := d.S[a.toNat].data.set place.toNat zz } : Sec).cells.toArray) := Lib.hid (by have := hit1_cells HSO.out (show place.toNat < 128 by omega) y; rw [HVV.out, HZZ.out] at this; exact this)
  clear h1
  clear hv hok hr
  go_enter Tryd.func9, Tryd.ntmps9
  go_wp2_with (first | (go_at_call 20; (with_reducible refine (HRI.out).mono ?_); rintro e w2 ⟨rfl, hf2⟩; have HF2 := Lib.hid hf2; have HV2 := Lib.hid (HV.out.keep hf2); have HRG := Lib.hid (RdG.at (hv2S HV2.out) hq); have q0 : w2.cell? ⟨p, 0, none⟩ = some (.slice (some ⟨sb, so, none⟩) d.S.length sc) := Bk.cell HV2.out.blk 0; have HZ2 := Lib.hid (Bk.new w2 (.cells ZSC 46)); have HX3 : Hid (Bk ((w2.alloc (.cells ZSC 46)).setRow w2.heap.size d.S[a.toNat].cells.toArray) w2.heap.size d.S[a.toNat].cells.toArray 46) := Lib.hid (ArrKit.Bk.row HZ2.out _); have HF3 : Hid (Fr0 w ((w2.alloc (.cells ZSC 46)).setRow w2.heap.size d.S[a.toNat].cells.toArray)) := Lib.hid (ArrKit.Fr.row (Fr.alloc hf2 _) _ _ (.inl hf2.size)); have HV3 := Lib.hid (HV.out.keep HF3.out); have HPX : Hid (p ≠ w2.heap.size) := Lib.hid (by have := hf2.size; omega); have e1 : ((w2.alloc (.cells ZSC 46)).setRow w2.heap.size d.S[a.toNat].cells.toArray).cell? ⟨w2.heap.size, place.toNat, none⟩ = d.S[a.toNat].cells[place.toNat]? := (by rw [Bk.cell HX3.out, List.getElem?_toArray]); rw [HVJ.out] at e1; have z1 := Bk.free HX3.out (place.toNat); have HX4 : Hid (Bk (((w2.alloc (.cells ZSC 46)).setRow w2.heap.size d.S[a.toNat].cells.toArray).setCell ⟨w2.heap.size, place.toNat, none⟩ (.int .u8 (zz.toNat : Int))) w2.heap.size ({ d.S[a.toNat] with data := d.S[a.toNat].data.set place.toNat zz } : Sec).cells.toArray 46) := Lib.hid (by rw [← HCS.out]; exact Bk.set HX3.out (place.toNat) _); have HF4 : Hid (Fr0 w (((w2.alloc (.cells ZSC 46)).setRow w2.heap.size d.S[a.toNat].cells.toArray).setCell ⟨w2.heap.size, place.toNat, none⟩ (.int .u8 (zz.toNat : Int)))) := Lib.hid (Fr.set HF3.out _ _ (.inl hf2.size)); have HV4 := Lib.hid (HV.out.keep HF4.out); have p0 : (((w2.alloc (.cells ZSC 46)).setRow w2.heap.size d.S[a.toNat].cells.toArray).setCell ⟨w2.heap.size, place.toNat, none⟩ (.int .u8 (zz.toNat : Int))).cell? ⟨p, 0, none⟩ = some (.slice (some ⟨sb, so, none⟩) d.S.length sc) := Bk.cell HV4.out.blk 0; have hp4 : p < ((w2.alloc (.cells ZSC 46)).setRow w2.heap.size d.S[a.toNat].cells.toArray).heap.size := HF3.out.lt hpw; have hxp := HPX.out; clear hf2) | ((with_reducible show wpList _ _ _ ({ dst := _, op := Op.load 46 _, type := _, pos := _, after := _, guard := _ } :: _) _ _); refine wpList_load_mid rfl 46 _ rfl sb (so + a.toNat * 130) rfl d.S[a.toNat].cells _ HRG.out Tryd.underlying46 rfl HIS.out ?_) | ((with_reducible show wpList _ _ _ ({ dst := _, op := Op.store 46 _ _, type := _, pos := _, after := _, guard := _ } :: _) _ _); refine wpList_store_row rfl 46 _ _ rfl w2.heap.size d.S[a.toNat].cells.toArray rfl rfl 46 ZSC HZ2.out HIT.out HZT.out HOT.out ?_) | (go_at_call 24; (with_reducible refine (HCL.out _ HV4.out).mono ?_); rintro e w5 ⟨g, cap, cur, rfl, hge, hown, hfr⟩; have HV5 := Lib.hid (HV4.out.keep hfr); have HX5 := Lib.hid (hfr.keep HX4.out (fun h => h)); have HF5 := Lib.hid (HF4.out.then0 hfr); have p5 : w5.cell? ⟨p, 0, none⟩ = some (.slice (some ⟨sb, so, none⟩) d.S.length sc) := Bk.cell HV5.out.blk 0; have z5 := Bk.free HV5.out.blk 0; have HO5 := Lib.hid hown; have hgx : w2.heap.size ≠ g := (by have h1 := Bk.lt HX4.out; omega); have hgp : p ≠ g := (by have h1 := HF4.out.lt hpw; omega); have HGW : Hid (w.heap.size ≤ g) := Lib.hid (Nat.le_trans HF4.out.size hge); clear hge hown hfr))
  have hq2 : a.toNat * 130 + 130 ≤ cur.size := by have h1 := HO5.out.size; have h2 := HO5.out.room; omega
  have HSN : Hid (({ d.S[a.toNat] with data := d.S[a.toNat].data.set place.toNat zz } : Sec).ok) := Lib.hid ((show (d.S[a.toNat].data.set place.toNat _).length = 128 by rw [List.length_set]; exact HSO.out))
  have HP6 : Hid (Bk (w5.setCell ⟨p, 0, none⟩ (.slice (some ⟨g, 0, none⟩) d.S.length cap)) p (DC (.slice (some ⟨g, 0, none⟩) d.S.length cap) (.slice ca d.C.length cc) d.fuse d.down) 29) := Lib.hid (Bk.set HV5.out.blk 0 _)
  have HO6 : Hid (OwnS (w5.setCell ⟨p, 0, none⟩ (.slice (some ⟨g, 0, none⟩) d.S.length cap)) g cap cur d.S) := Lib.hid (OwnG.keep HO5.out (Fr.set1 _ _ _ _) (by omega))
  have HST : Hid (Stand [(p, .cells (DC (.slice (some ⟨g, 0, none⟩) d.S.length cap) (.slice ca d.C.length cc) d.fuse d.down) 29 (0, 0)), (w2.heap.size, .cells ({ d.S[a.toNat] with data := d.S[a.toNat].data.set place.toNat zz } : Sec).cells.toArray 46 (0, 0))] (w5.setCell ⟨p, 0, none⟩ (.slice (some ⟨g, 0, none⟩) d.S.length cap))) := Lib.hid (Stand.cons HP6.out (Stand.cons (Bk.setOther HX5.out _ _ (Ne.symm HPX.out)) (Stand.nil _)))
  have HP7 : Hid (Bk (w5.setCell ⟨p, 0, none⟩ (.slice (some ⟨g, 0, none⟩) d.S.length cap)).drew p (DC (.slice (some ⟨g, 0, none⟩) d.S.length cap) (.slice ca d.C.length cc) d.fuse d.down) 29) := Lib.hid HP6.out
  have HG7 : Hid (Bk (w5.setCell ⟨p, 0, none⟩ (.slice (some ⟨g, 0, none⟩) d.S.length cap)).drew g cur 46) := Lib.hid HO6.out.blk
  have HF7 : Hid (Fr (fun i => i = p) w (w5.setCell ⟨p, 0, none⟩ (.slice (some ⟨g, 0, none⟩) d.S.length cap)).drew) := Lib.hid (Fr.drew (Fr.set (HF5.out.weaken (fun _ _ h => h.elim)) _ _ (.inr rfl)))
  have HV7 : Hid (DV (w5.setCell ⟨p, 0, none⟩ (.slice (some ⟨g, 0, none⟩) d.S.length cap)).drew d (some ⟨sb, so, none⟩) sc ca cc) := Lib.hid (DV.keep (DV.past HV5.out.v HOK.out (Fr.set1 w5 p 0 (.slice (some ⟨g, 0, none⟩) d.S.length cap)) HV5.out.blk (dval_no _ _ _ _ _)) (Fr.drew (Fr.refl _ _)))
  have HIN : Hid ((Tryd.prog.info? 46).map (·.size) = some ({ d.S[a.toNat] with data := d.S[a.toNat].data.set place.toNat zz } : Sec).cells.toArray.size) := Lib.hid (by rw [List.size_toArray, Sec.len HSN.out, info_s])
  have HON : Hid (({ d.S[a.toNat] with data := d.S[a.toNat].data.set place.toNat zz } : Sec).cells.toArray.all (·.oneCell') = true) := Lib.hid (all_oneCell_toArray (Sec.one _))
  have HTH : Hid ((w5.setCell ⟨p, 0, none⟩ (.slice (some ⟨g, 0, none⟩) d.S.length cap)).drew.there g (a.toNat * 130) ({ d.S[a.toNat] with data := d.S[a.toNat].data.set place.toNat zz } : Sec).cells.toArray.size) := Lib.hid (there_bk HG7.out _ _ (by rw [List.size_toArray, Sec.len HSN.out]; omega))
  refine wp_region_noPanic ?_
  refine wp_region_held_drew (S := (Stand [(p, .cells (DC (.slice (some ⟨g, 0, none⟩) d.S.length cap) (.slice ca d.C.length cc) d.fuse d.down) 29 (0, 0)), (w2.heap.size, .cells ({ d.S[a.toNat] with data := d.S[a.toNat].data.set place.toNat zz } : Sec).cells.toArray 46 (0, 0))])) (by kernel_rfl) (Stand.drew HST.out) (fun hHeld0 => ?_)
  generalize (w5.setCell ⟨p, 0, none⟩ (.slice (some ⟨g, 0, none⟩) d.S.length cap)).drew = wd at *
  refine tk0 (i := 0) (v := .pointer (some ⟨p, 0, none⟩)) rfl hHeld0 ?_
  simp only [Act.put, zA, zB, zC, zD, zE, zF]
  refine tk0 (i := 1) (v := .pointer (some ⟨p, 0, none⟩)) rfl hHeld0 ?_
  simp only [Act.put, zA, zB, zC, zD, zE, zF]
  refine tk0 (i := 2) (v := .pointer (some ⟨p, 0, none⟩)) rfl hHeld0 ?_
  simp only [Act.put, zA, zB, zC, zD, zE, zF]
  refine tk (i := 3) (v := .slice (some ⟨g, 0, none⟩) d.S.length cap) rfl (Or.inl ⟨by kernel_rfl, fun w hSw => by have hcl := (fun W h => Bk.cell (Stand.a0 h) 0) w hSw; go_simp⟩) hHeld0 ?_
  simp only [Act.put, zA, zB, zC, zD, zE, zF]
  refine tk0 (i := 4) (v := .int .i64 a) rfl hHeld0 ?_
  simp only [Act.put, zA, zB, zC, zD, zE, zF]
  refine tk (i := 5) (v := .agg ({ d.S[a.toNat] with data := d.S[a.toNat].data.set place.toNat zz } : Sec).cells.toArray) rfl (yields_row (by kernel_rfl) 46 _ rfl (w2.heap.size) rfl 46 ({ d.S[a.toNat] with data := d.S[a.toNat].data.set place.toNat zz } : Sec).cells.toArray (0, 0) _ (fun W h => Stand.a0 (Stand.tl h)) Tryd.underlying46 rfl HIN.out) hHeld0 ?_
  simp only [Act.put, zA, zB, zC, zD, zE, zF]
  refine tk (i := 6) (v := .pointer (some ⟨g, a.toNat * 130, none⟩)) rfl (Or.inl ⟨by kernel_rfl, fun w hSw => by go_simp⟩) hHeld0 ?_
  simp only [Act.put, zA, zB, zC, zD, zE, zF]
  change wpAnyH _ _ _ _ _ 1 #[true, true, true, true, true, true, true, false] _ _
  refine wpAnyH_ready (rs := [7]) (by kernel_rfl) (by simp) ?_
  refine AllReadyH.cons rfl (fun K hK => ?_) AllReadyH.nil
  simp only [zA, zB, zC]
  refine (if_pos (by kernel_rfl)).mpr ?_
  refine wp_store_mid 46 _ _ rfl g (a.toNat * 130) ({ d.S[a.toNat] with data := d.S[a.toNat].data.set place.toNat zz } : Sec).cells.toArray rfl rfl HTH.out HIN.out HON.out ?_
  refine hK.out _ _ (Stand.fr hHeld0 (Fr.sets1 _ _ _ _) (fun r hr => by simp only [List.mem_cons, List.not_mem_nil, or_false] at hr; rcases hr with rfl | rfl; exact hgp; exact hgx)) (fun hHeld1 => ?_)
  clear hK K hHeld0
  change wpAnyH _ _ _ _ _ 0 #[true, true, true, true, true, true, true, true] _ _
  refine wpAnyH_done (by kernel_rfl) ?_ _
  refine NoPanic.normal ?_
  have HEND := Lib.hid hHeld1
  clear hHeld1
  go_wp2_with fail
  go_ret
  have hfs := Fr.sets1 wd g (a.toNat * 130) ({ d.S[a.toNat] with data := d.S[a.toNat].data.set place.toNat zz } : Sec).cells.toArray.toList
  have hcb : ∀ a', ca = some a' → d.C ≠ [] → ¬ a'.block = g := fun a' e hl => by
    subst e
    obtain ⟨b', o', e, hb, -⟩ := RdG.form HV.out.v.rc (List.length_pos_iff.2 hl) Wri.ps
    obtain rfl := Option.some.inj e
    have := HGW.out
    show ¬ b' = g
    omega
  have hrc := RdG.later HV7.out.rc hfs hcb
  have hset := OwnG.set HO5.out (secs_len HOK.out.s) hq ({ d.S[a.toNat] with data := d.S[a.toNat].data.set place.toNat zz } : Sec) (Sec.len HSN.out) (wd.setCells g (a.toNat * 130) ({ d.S[a.toNat] with data := d.S[a.toNat].data.set place.toNat zz } : Sec).cells.toArray.toList) (lyc cur (a.toNat * 130) ({ d.S[a.toNat] with data := d.S[a.toNat].data.set place.toNat zz } : Sec).cells) (sets_bk _ _ _ _ HG7.out) (lay_size _ _ _) (fun j u hj => by
    have hj' := (List.getElem?_eq_some_iff.1 hj).1
    rw [Sec.len HSN.out] at hj'
    rw [lay_get, if_pos (by rw [Sec.len HSN.out]; omega), show a.toNat * 130 + j - a.toNat * 130 = j by omega]
    exact hj) (fun m hm => by rw [lay_get, if_neg (by rw [Sec.len HSN.out]; omega)])
  rw [HHS.out]
  refine ⟨rfl, ⟨⟨some ⟨g, 0, none⟩, cap, ca, cc, ?_, ?_⟩, Fr.newG HF7.out hfs HGW.out⟩⟩
  · have := hfs.keep HP7.out hgp
    simp only [dval, List.length_set]
    exact this
  · exact ⟨hset.rd, hrc, hset.room, hset.max, HV7.out.cn, HV7.out.cm⟩

set_option maxHeartbeats 2000000 in
set_option maxRecDepth 100000 in
theorem hit_k2 (p : Nat) (a kind place : Int) (y : UInt8) (d : Dk) (sa : Option Addr) (sc : Nat) (ca : Option Addr) (cc : Nat) (w : World) (hok : d.ok) (hv : DAt w p d sa sc ca cc) (hr : rightB d a = true) (h1 : kind = 2) : Calls Tryd.prog 9 #[.pointer (some ⟨p, 0, none⟩), .int .i64 a, .int .i64 kind, .int .i64 place, .int .u8 (y.toNat : Int)] w fun e w' => e = .returned (.int .i64 0) ∧ Now w w' p { d with S := d.S.set a.toNat (hitS (secAt d a) kind place y) } := by
  have HRI := Lib.hid (right_calls p a d sa sc ca cc w hok hv)
  have HV := Lib.hid hv
  have hrt := hr
  rw [rightB, Bool.and_eq_true] at hrt
  have htt := thereB_true.1 hrt.1
  have hfm := formed_parts hrt.2
  have ha0 := htt.1
  have ha1 := htt.2
  have hq : a.toNat < d.S.length := by omega
  have hsn := hv.v.sn
  have hsm := hv.v.sm
  have hn2 := hfm.2.1
  have HSX : Hid (secAt d a = d.S[a.toNat]) := Lib.hid (by rw [secAt, List.getD_eq_getElem?_getD, List.getElem?_eq_getElem hq]; rfl)
  have HOK := Lib.hid hok
  obtain ⟨sb, so, hso, -⟩ := hv.v.rs _ hq
  subst hso
  have hsok : d.S[a.toNat].ok := hok.s _ (List.getElem_mem hq)
  have HSO := Lib.hid hsok
  have HIS : Hid ((Tryd.prog.info? 46).map (·.size) = some d.S[a.toNat].cells.length) := Lib.hid (by rw [Sec.len hsok, info_s])
  have HIT : Hid ((Tryd.prog.info? 46).map (·.size) = some d.S[a.toNat].cells.toArray.size) := Lib.hid (by rw [List.size_toArray, Sec.len hsok, info_s])
  have HZT : Hid (ZSC.size = d.S[a.toNat].cells.toArray.size) := Lib.hid ((show ZSC.size = 130 from ZSC_cells).trans (by rw [List.size_toArray, Sec.len hsok]))
  have HOT : Hid (d.S[a.toNat].cells.toArray.all (·.oneCell') = true) := Lib.hid (all_oneCell_toArray (Sec.one _))
  have hzs : ∀ W, (zeroValue 46).run Tryd.prog W = .ok (.agg ZSC) W := by intro W; kernel_rfl
  have hpw : p < w.heap.size := Bk.lt hv.blk
  rw [hr] at HRI
  clear htt hrt hfm hsok
  have HHS : Hid (hitS (secAt d a) kind place y = ({ d.S[a.toNat] with nr := true } : Sec)) := Lib.hid (by rw [HSX.out]; unfold hitS; rw [if_neg (by omega), if_pos h1])
  have HCL : Hid (∀ W, DAt W p d (some ⟨sb, so, none⟩) sc ca cc → Calls Tryd.prog 24 #[.slice (some ⟨sb, so, none⟩) d.S.length sc] W fun e w' => ∃ g cap cur, e = .returned (.slice (some ⟨g, 0, none⟩) d.S.length cap) ∧ W.heap.size ≤ g ∧ OwnS w' g cap cur d.S ∧ Fr0 W w') := Lib.hid (fun W h => clone_calls (some ⟨sb, so, none⟩) sc d.S W h.v.rs hok.s (by omega) (by omega))
  have c1 : (kind == 1) = false := by simp [h1]
  have c2 : (kind == 2) = true := by simpa using h1
  clear h1
  clear hv hok hr
  go_enter Tryd.func9, Tryd.ntmps9
  go_wp2_with (first | (go_at_call 20; (with_reducible refine (HRI.out).mono ?_); rintro e w2 ⟨rfl, hf2⟩; have HF2 := Lib.hid hf2; have HV2 := Lib.hid (HV.out.keep hf2); have HRG := Lib.hid (RdG.at (hv2S HV2.out) hq); have q0 : w2.cell? ⟨p, 0, none⟩ = some (.slice (some ⟨sb, so, none⟩) d.S.length sc) := Bk.cell HV2.out.blk 0; have HZ2 := Lib.hid (Bk.new w2 (.cells ZSC 46)); have HX3 : Hid (Bk ((w2.alloc (.cells ZSC 46)).setRow w2.heap.size d.S[a.toNat].cells.toArray) w2.heap.size d.S[a.toNat].cells.toArray 46) := Lib.hid (ArrKit.Bk.row HZ2.out _); have HF3 : Hid (Fr0 w ((w2.alloc (.cells ZSC 46)).setRow w2.heap.size d.S[a.toNat].cells.toArray)) := Lib.hid (ArrKit.Fr.row (Fr.alloc hf2 _) _ _ (.inl hf2.size)); have HV3 := Lib.hid (HV.out.keep HF3.out); have HPX : Hid (p ≠ w2.heap.size) := Lib.hid (by have := hf2.size; omega); have e1 : ((w2.alloc (.cells ZSC 46)).setRow w2.heap.size d.S[a.toNat].cells.toArray).cell? ⟨w2.heap.size, 128, none⟩ = d.S[a.toNat].cells[128]? := (by rw [Bk.cell HX3.out, List.getElem?_toArray]); rw [Sec.nr_at HSO.out] at e1; have z1 := Bk.free HX3.out (128); have HX4 : Hid (Bk (((w2.alloc (.cells ZSC 46)).setRow w2.heap.size d.S[a.toNat].cells.toArray).setCell ⟨w2.heap.size, 128, none⟩ (.bool true)) w2.heap.size ({ d.S[a.toNat] with nr := true } : Sec).cells.toArray 46) := Lib.hid (by rw [← hit2_cells HSO.out true]; exact Bk.set HX3.out (128) _); have HF4 : Hid (Fr0 w (((w2.alloc (.cells ZSC 46)).setRow w2.heap.size d.S[a.toNat].cells.toArray).setCell ⟨w2.heap.size, 128, none⟩ (.bool true))) := Lib.hid (Fr.set HF3.out _ _ (.inl hf2.size)); have HV4 := Lib.hid (HV.out.keep HF4.out); have p0 : (((w2.alloc (.cells ZSC 46)).setRow w2.heap.size d.S[a.toNat].cells.toArray).setCell ⟨w2.heap.size, 128, none⟩ (.bool true)).cell? ⟨p, 0, none⟩ = some (.slice (some ⟨sb, so, none⟩) d.S.length sc) := Bk.cell HV4.out.blk 0; have hp4 : p < ((w2.alloc (.cells ZSC 46)).setRow w2.heap.size d.S[a.toNat].cells.toArray).heap.size := HF3.out.lt hpw; have hxp := HPX.out; clear hf2) | ((with_reducible show wpList _ _ _ ({ dst := _, op := Op.load 46 _, type := _, pos := _, after := _, guard := _ } :: _) _ _); refine wpList_load_mid rfl 46 _ rfl sb (so + a.toNat * 130) rfl d.S[a.toNat].cells _ HRG.out Tryd.underlying46 rfl HIS.out ?_) | ((with_reducible show wpList _ _ _ ({ dst := _, op := Op.store 46 _ _, type := _, pos := _, after := _, guard := _ } :: _) _ _); refine wpList_store_row rfl 46 _ _ rfl w2.heap.size d.S[a.toNat].cells.toArray rfl rfl 46 ZSC HZ2.out HIT.out HZT.out HOT.out ?_) | (go_at_call 24; (with_reducible refine (HCL.out _ HV4.out).mono ?_); rintro e w5 ⟨g, cap, cur, rfl, hge, hown, hfr⟩; have HV5 := Lib.hid (HV4.out.keep hfr); have HX5 := Lib.hid (hfr.keep HX4.out (fun h => h)); have HF5 := Lib.hid (HF4.out.then0 hfr); have p5 : w5.cell? ⟨p, 0, none⟩ = some (.slice (some ⟨sb, so, none⟩) d.S.length sc) := Bk.cell HV5.out.blk 0; have z5 := Bk.free HV5.out.blk 0; have HO5 := Lib.hid hown; have hgx : w2.heap.size ≠ g := (by have h1 := Bk.lt HX4.out; omega); have hgp : p ≠ g := (by have h1 := HF4.out.lt hpw; omega); have HGW : Hid (w.heap.size ≤ g) := Lib.hid (Nat.le_trans HF4.out.size hge); clear hge hown hfr))
  have hq2 : a.toNat * 130 + 130 ≤ cur.size := by have h1 := HO5.out.size; have h2 := HO5.out.room; omega
  have HSN : Hid (({ d.S[a.toNat] with nr := true } : Sec).ok) := Lib.hid (HSO.out)
  have HP6 : Hid (Bk (w5.setCell ⟨p, 0, none⟩ (.slice (some ⟨g, 0, none⟩) d.S.length cap)) p (DC (.slice (some ⟨g, 0, none⟩) d.S.length cap) (.slice ca d.C.length cc) d.fuse d.down) 29) := Lib.hid (Bk.set HV5.out.blk 0 _)
  have HO6 : Hid (OwnS (w5.setCell ⟨p, 0, none⟩ (.slice (some ⟨g, 0, none⟩) d.S.length cap)) g cap cur d.S) := Lib.hid (OwnG.keep HO5.out (Fr.set1 _ _ _ _) (by omega))
  have HST : Hid (Stand [(p, .cells (DC (.slice (some ⟨g, 0, none⟩) d.S.length cap) (.slice ca d.C.length cc) d.fuse d.down) 29 (0, 0)), (w2.heap.size, .cells ({ d.S[a.toNat] with nr := true } : Sec).cells.toArray 46 (0, 0))] (w5.setCell ⟨p, 0, none⟩ (.slice (some ⟨g, 0, none⟩) d.S.length cap))) := Lib.hid (Stand.cons HP6.out (Stand.cons (Bk.setOther HX5.out _ _ (Ne.symm HPX.out)) (Stand.nil _)))
  have HP7 : Hid (Bk (w5.setCell ⟨p, 0, none⟩ (.slice (some ⟨g, 0, none⟩) d.S.length cap)).drew p (DC (.slice (some ⟨g, 0, none⟩) d.S.length cap) (.slice ca d.C.length cc) d.fuse d.down) 29) := Lib.hid HP6.out
  have HG7 : Hid (Bk (w5.setCell ⟨p, 0, none⟩ (.slice (some ⟨g, 0, none⟩) d.S.length cap)).drew g cur 46) := Lib.hid HO6.out.blk
  have HF7 : Hid (Fr (fun i => i = p) w (w5.setCell ⟨p, 0, none⟩ (.slice (some ⟨g, 0, none⟩) d.S.length cap)).drew) := Lib.hid (Fr.drew (Fr.set (HF5.out.weaken (fun _ _ h => h.elim)) _ _ (.inr rfl)))
  have HV7 : Hid (DV (w5.setCell ⟨p, 0, none⟩ (.slice (some ⟨g, 0, none⟩) d.S.length cap)).drew d (some ⟨sb, so, none⟩) sc ca cc) := Lib.hid (DV.keep (DV.past HV5.out.v HOK.out (Fr.set1 w5 p 0 (.slice (some ⟨g, 0, none⟩) d.S.length cap)) HV5.out.blk (dval_no _ _ _ _ _)) (Fr.drew (Fr.refl _ _)))
  have HIN : Hid ((Tryd.prog.info? 46).map (·.size) = some ({ d.S[a.toNat] with nr := true } : Sec).cells.toArray.size) := Lib.hid (by rw [List.size_toArray, Sec.len HSN.out, info_s])
  have HON : Hid (({ d.S[a.toNat] with nr := true } : Sec).cells.toArray.all (·.oneCell') = true) := Lib.hid (all_oneCell_toArray (Sec.one _))
  have HTH : Hid ((w5.setCell ⟨p, 0, none⟩ (.slice (some ⟨g, 0, none⟩) d.S.length cap)).drew.there g (a.toNat * 130) ({ d.S[a.toNat] with nr := true } : Sec).cells.toArray.size) := Lib.hid (there_bk HG7.out _ _ (by rw [List.size_toArray, Sec.len HSN.out]; omega))
  refine wp_region_noPanic ?_
  refine wp_region_held_drew (S := (Stand [(p, .cells (DC (.slice (some ⟨g, 0, none⟩) d.S.length cap) (.slice ca d.C.length cc) d.fuse d.down) 29 (0, 0)), (w2.heap.size, .cells ({ d.S[a.toNat] with nr := true } : Sec).cells.toArray 46 (0, 0))])) (by kernel_rfl) (Stand.drew HST.out) (fun hHeld0 => ?_)
  generalize (w5.setCell ⟨p, 0, none⟩ (.slice (some ⟨g, 0, none⟩) d.S.length cap)).drew = wd at *
  refine tk0 (i := 0) (v := .pointer (some ⟨p, 0, none⟩)) rfl hHeld0 ?_
  simp only [Act.put, zA, zB, zC, zD, zE, zF]
  refine tk0 (i := 1) (v := .pointer (some ⟨p, 0, none⟩)) rfl hHeld0 ?_
  simp only [Act.put, zA, zB, zC, zD, zE, zF]
  refine tk0 (i := 2) (v := .pointer (some ⟨p, 0, none⟩)) rfl hHeld0 ?_
  simp only [Act.put, zA, zB, zC, zD, zE, zF]
  refine tk (i := 3) (v := .slice (some ⟨g, 0, none⟩) d.S.length cap) rfl (Or.inl ⟨by kernel_rfl, fun w hSw => by have hcl := (fun W h => Bk.cell (Stand.a0 h) 0) w hSw; go_simp⟩) hHeld0 ?_
  simp only [Act.put, zA, zB, zC, zD, zE, zF]
  refine tk0 (i := 4) (v := .int .i64 a) rfl hHeld0 ?_
  simp only [Act.put, zA, zB, zC, zD, zE, zF]
  refine tk (i := 5) (v := .agg ({ d.S[a.toNat] with nr := true } : Sec).cells.toArray) rfl (yields_row (by kernel_rfl) 46 _ rfl (w2.heap.size) rfl 46 ({ d.S[a.toNat] with nr := true } : Sec).cells.toArray (0, 0) _ (fun W h => Stand.a0 (Stand.tl h)) Tryd.underlying46 rfl HIN.out) hHeld0 ?_
  simp only [Act.put, zA, zB, zC, zD, zE, zF]
  refine tk (i := 6) (v := .pointer (some ⟨g, a.toNat * 130, none⟩)) rfl (Or.inl ⟨by kernel_rfl, fun w hSw => by go_simp⟩) hHeld0 ?_
  simp only [Act.put, zA, zB, zC, zD, zE, zF]
  change wpAnyH _ _ _ _ _ 1 #[true, true, true, true, true, true, true, false] _ _
  refine wpAnyH_ready (rs := [7]) (by kernel_rfl) (by simp) ?_
  refine AllReadyH.cons rfl (fun K hK => ?_) AllReadyH.nil
  simp only [zA, zB, zC]
  refine (if_pos (by kernel_rfl)).mpr ?_
  refine wp_store_mid 46 _ _ rfl g (a.toNat * 130) ({ d.S[a.toNat] with nr := true } : Sec).cells.toArray rfl rfl HTH.out HIN.out HON.out ?_
  refine hK.out _ _ (Stand.fr hHeld0 (Fr.sets1 _ _ _ _) (fun r hr => by simp only [List.mem_cons, List.not_mem_nil, or_false] at hr; rcases hr with rfl | rfl; exact hgp; exact hgx)) (fun hHeld1 => ?_)
  clear hK K hHeld0
  change wpAnyH _ _ _ _ _ 0 #[true, true, true, true, true, true, true, true] _ _
  refine wpAnyH_done (by kernel_rfl) ?_ _
  refine NoPanic.normal ?_
  have HEND := Lib.hid hHeld1
  clear hHeld1
  go_wp2_with fail
  go_ret
  have hfs := Fr.sets1 wd g (a.toNat * 130) ({ d.S[a.toNat] with nr := true } : Sec).cells.toArray.toList
  have hcb : ∀ a', ca = some a' → d.C ≠ [] → ¬ a'.block = g := fun a' e hl => by
    subst e
    obtain ⟨b', o', e, hb, -⟩ := RdG.form HV.out.v.rc (List.length_pos_iff.2 hl) Wri.ps
    obtain rfl := Option.some.inj e
    have := HGW.out
    show ¬ b' = g
    omega
  have hrc := RdG.later HV7.out.rc hfs hcb
  have hset := OwnG.set HO5.out (secs_len HOK.out.s) hq ({ d.S[a.toNat] with nr := true } : Sec) (Sec.len HSN.out) (wd.setCells g (a.toNat * 130) ({ d.S[a.toNat] with nr := true } : Sec).cells.toArray.toList) (lyc cur (a.toNat * 130) ({ d.S[a.toNat] with nr := true } : Sec).cells) (sets_bk _ _ _ _ HG7.out) (lay_size _ _ _) (fun j u hj => by
    have hj' := (List.getElem?_eq_some_iff.1 hj).1
    rw [Sec.len HSN.out] at hj'
    rw [lay_get, if_pos (by rw [Sec.len HSN.out]; omega), show a.toNat * 130 + j - a.toNat * 130 = j by omega]
    exact hj) (fun m hm => by rw [lay_get, if_neg (by rw [Sec.len HSN.out]; omega)])
  rw [HHS.out]
  refine ⟨rfl, ⟨⟨some ⟨g, 0, none⟩, cap, ca, cc, ?_, ?_⟩, Fr.newG HF7.out hfs HGW.out⟩⟩
  · have := hfs.keep HP7.out hgp
    simp only [dval, List.length_set]
    exact this
  · exact ⟨hset.rd, hrc, hset.room, hset.max, HV7.out.cn, HV7.out.cm⟩

set_option maxHeartbeats 2000000 in
set_option maxRecDepth 100000 in
theorem hit_k3 (p : Nat) (a kind place : Int) (y : UInt8) (d : Dk) (sa : Option Addr) (sc : Nat) (ca : Option Addr) (cc : Nat) (w : World) (hok : d.ok) (hv : DAt w p d sa sc ca cc) (hr : rightB d a = true) (h1 : kind = 3) : Calls Tryd.prog 9 #[.pointer (some ⟨p, 0, none⟩), .int .i64 a, .int .i64 kind, .int .i64 place, .int .u8 (y.toNat : Int)] w fun e w' => e = .returned (.int .i64 0) ∧ Now w w' p { d with S := d.S.set a.toNat (hitS (secAt d a) kind place y) } := by
  have HRI := Lib.hid (right_calls p a d sa sc ca cc w hok hv)
  have HV := Lib.hid hv
  have hrt := hr
  rw [rightB, Bool.and_eq_true] at hrt
  have htt := thereB_true.1 hrt.1
  have hfm := formed_parts hrt.2
  have ha0 := htt.1
  have ha1 := htt.2
  have hq : a.toNat < d.S.length := by omega
  have hsn := hv.v.sn
  have hsm := hv.v.sm
  have hn2 := hfm.2.1
  have HSX : Hid (secAt d a = d.S[a.toNat]) := Lib.hid (by rw [secAt, List.getD_eq_getElem?_getD, List.getElem?_eq_getElem hq]; rfl)
  have HOK := Lib.hid hok
  obtain ⟨sb, so, hso, -⟩ := hv.v.rs _ hq
  subst hso
  have hsok : d.S[a.toNat].ok := hok.s _ (List.getElem_mem hq)
  have HSO := Lib.hid hsok
  have HIS : Hid ((Tryd.prog.info? 46).map (·.size) = some d.S[a.toNat].cells.length) := Lib.hid (by rw [Sec.len hsok, info_s])
  have HIT : Hid ((Tryd.prog.info? 46).map (·.size) = some d.S[a.toNat].cells.toArray.size) := Lib.hid (by rw [List.size_toArray, Sec.len hsok, info_s])
  have HZT : Hid (ZSC.size = d.S[a.toNat].cells.toArray.size) := Lib.hid ((show ZSC.size = 130 from ZSC_cells).trans (by rw [List.size_toArray, Sec.len hsok]))
  have HOT : Hid (d.S[a.toNat].cells.toArray.all (·.oneCell') = true) := Lib.hid (all_oneCell_toArray (Sec.one _))
  have hzs : ∀ W, (zeroValue 46).run Tryd.prog W = .ok (.agg ZSC) W := by intro W; kernel_rfl
  have hpw : p < w.heap.size := Bk.lt hv.blk
  rw [hr] at HRI
  clear htt hrt hfm hsok
  have HHS : Hid (hitS (secAt d a) kind place y = ({ d.S[a.toNat] with nw := true } : Sec)) := Lib.hid (by rw [HSX.out]; unfold hitS; rw [if_neg (by omega), if_neg (by omega)])
  have HCL : Hid (∀ W, DAt W p d (some ⟨sb, so, none⟩) sc ca cc → Calls Tryd.prog 24 #[.slice (some ⟨sb, so, none⟩) d.S.length sc] W fun e w' => ∃ g cap cur, e = .returned (.slice (some ⟨g, 0, none⟩) d.S.length cap) ∧ W.heap.size ≤ g ∧ OwnS w' g cap cur d.S ∧ Fr0 W w') := Lib.hid (fun W h => clone_calls (some ⟨sb, so, none⟩) sc d.S W h.v.rs hok.s (by omega) (by omega))
  have c1 : (kind == 1) = false := by simp [h1]
  have c2 : (kind == 2) = false := by simp [h1]
  have c3 : (kind == 3) = true := by simpa using h1
  clear h1
  clear hv hok hr
  go_enter Tryd.func9, Tryd.ntmps9
  go_wp2_with (first | (go_at_call 20; (with_reducible refine (HRI.out).mono ?_); rintro e w2 ⟨rfl, hf2⟩; have HF2 := Lib.hid hf2; have HV2 := Lib.hid (HV.out.keep hf2); have HRG := Lib.hid (RdG.at (hv2S HV2.out) hq); have q0 : w2.cell? ⟨p, 0, none⟩ = some (.slice (some ⟨sb, so, none⟩) d.S.length sc) := Bk.cell HV2.out.blk 0; have HZ2 := Lib.hid (Bk.new w2 (.cells ZSC 46)); have HX3 : Hid (Bk ((w2.alloc (.cells ZSC 46)).setRow w2.heap.size d.S[a.toNat].cells.toArray) w2.heap.size d.S[a.toNat].cells.toArray 46) := Lib.hid (ArrKit.Bk.row HZ2.out _); have HF3 : Hid (Fr0 w ((w2.alloc (.cells ZSC 46)).setRow w2.heap.size d.S[a.toNat].cells.toArray)) := Lib.hid (ArrKit.Fr.row (Fr.alloc hf2 _) _ _ (.inl hf2.size)); have HV3 := Lib.hid (HV.out.keep HF3.out); have HPX : Hid (p ≠ w2.heap.size) := Lib.hid (by have := hf2.size; omega); have e1 : ((w2.alloc (.cells ZSC 46)).setRow w2.heap.size d.S[a.toNat].cells.toArray).cell? ⟨w2.heap.size, 129, none⟩ = d.S[a.toNat].cells[129]? := (by rw [Bk.cell HX3.out, List.getElem?_toArray]); rw [Sec.nw_at HSO.out] at e1; have z1 := Bk.free HX3.out (129); have HX4 : Hid (Bk (((w2.alloc (.cells ZSC 46)).setRow w2.heap.size d.S[a.toNat].cells.toArray).setCell ⟨w2.heap.size, 129, none⟩ (.bool true)) w2.heap.size ({ d.S[a.toNat] with nw := true } : Sec).cells.toArray 46) := Lib.hid (by rw [← hit3_cells HSO.out true]; exact Bk.set HX3.out (129) _); have HF4 : Hid (Fr0 w (((w2.alloc (.cells ZSC 46)).setRow w2.heap.size d.S[a.toNat].cells.toArray).setCell ⟨w2.heap.size, 129, none⟩ (.bool true))) := Lib.hid (Fr.set HF3.out _ _ (.inl hf2.size)); have HV4 := Lib.hid (HV.out.keep HF4.out); have p0 : (((w2.alloc (.cells ZSC 46)).setRow w2.heap.size d.S[a.toNat].cells.toArray).setCell ⟨w2.heap.size, 129, none⟩ (.bool true)).cell? ⟨p, 0, none⟩ = some (.slice (some ⟨sb, so, none⟩) d.S.length sc) := Bk.cell HV4.out.blk 0; have hp4 : p < ((w2.alloc (.cells ZSC 46)).setRow w2.heap.size d.S[a.toNat].cells.toArray).heap.size := HF3.out.lt hpw; have hxp := HPX.out; clear hf2) | ((with_reducible show wpList _ _ _ ({ dst := _, op := Op.load 46 _, type := _, pos := _, after := _, guard := _ } :: _) _ _); refine wpList_load_mid rfl 46 _ rfl sb (so + a.toNat * 130) rfl d.S[a.toNat].cells _ HRG.out Tryd.underlying46 rfl HIS.out ?_) | ((with_reducible show wpList _ _ _ ({ dst := _, op := Op.store 46 _ _, type := _, pos := _, after := _, guard := _ } :: _) _ _); refine wpList_store_row rfl 46 _ _ rfl w2.heap.size d.S[a.toNat].cells.toArray rfl rfl 46 ZSC HZ2.out HIT.out HZT.out HOT.out ?_) | (go_at_call 24; (with_reducible refine (HCL.out _ HV4.out).mono ?_); rintro e w5 ⟨g, cap, cur, rfl, hge, hown, hfr⟩; have HV5 := Lib.hid (HV4.out.keep hfr); have HX5 := Lib.hid (hfr.keep HX4.out (fun h => h)); have HF5 := Lib.hid (HF4.out.then0 hfr); have p5 : w5.cell? ⟨p, 0, none⟩ = some (.slice (some ⟨sb, so, none⟩) d.S.length sc) := Bk.cell HV5.out.blk 0; have z5 := Bk.free HV5.out.blk 0; have HO5 := Lib.hid hown; have hgx : w2.heap.size ≠ g := (by have h1 := Bk.lt HX4.out; omega); have hgp : p ≠ g := (by have h1 := HF4.out.lt hpw; omega); have HGW : Hid (w.heap.size ≤ g) := Lib.hid (Nat.le_trans HF4.out.size hge); clear hge hown hfr))
  have hq2 : a.toNat * 130 + 130 ≤ cur.size := by have h1 := HO5.out.size; have h2 := HO5.out.room; omega
  have HSN : Hid (({ d.S[a.toNat] with nw := true } : Sec).ok) := Lib.hid (HSO.out)
  have HP6 : Hid (Bk (w5.setCell ⟨p, 0, none⟩ (.slice (some ⟨g, 0, none⟩) d.S.length cap)) p (DC (.slice (some ⟨g, 0, none⟩) d.S.length cap) (.slice ca d.C.length cc) d.fuse d.down) 29) := Lib.hid (Bk.set HV5.out.blk 0 _)
  have HO6 : Hid (OwnS (w5.setCell ⟨p, 0, none⟩ (.slice (some ⟨g, 0, none⟩) d.S.length cap)) g cap cur d.S) := Lib.hid (OwnG.keep HO5.out (Fr.set1 _ _ _ _) (by omega))
  have HST : Hid (Stand [(p, .cells (DC (.slice (some ⟨g, 0, none⟩) d.S.length cap) (.slice ca d.C.length cc) d.fuse d.down) 29 (0, 0)), (w2.heap.size, .cells ({ d.S[a.toNat] with nw := true } : Sec).cells.toArray 46 (0, 0))] (w5.setCell ⟨p, 0, none⟩ (.slice (some ⟨g, 0, none⟩) d.S.length cap))) := Lib.hid (Stand.cons HP6.out (Stand.cons (Bk.setOther HX5.out _ _ (Ne.symm HPX.out)) (Stand.nil _)))
  have HP7 : Hid (Bk (w5.setCell ⟨p, 0, none⟩ (.slice (some ⟨g, 0, none⟩) d.S.length cap)).drew p (DC (.slice (some ⟨g, 0, none⟩) d.S.length cap) (.slice ca d.C.length cc) d.fuse d.down) 29) := Lib.hid HP6.out
  have HG7 : Hid (Bk (w5.setCell ⟨p, 0, none⟩ (.slice (some ⟨g, 0, none⟩) d.S.length cap)).drew g cur 46) := Lib.hid HO6.out.blk
  have HF7 : Hid (Fr (fun i => i = p) w (w5.setCell ⟨p, 0, none⟩ (.slice (some ⟨g, 0, none⟩) d.S.length cap)).drew) := Lib.hid (Fr.drew (Fr.set (HF5.out.weaken (fun _ _ h => h.elim)) _ _ (.inr rfl)))
  have HV7 : Hid (DV (w5.setCell ⟨p, 0, none⟩ (.slice (some ⟨g, 0, none⟩) d.S.length cap)).drew d (some ⟨sb, so, none⟩) sc ca cc) := Lib.hid (DV.keep (DV.past HV5.out.v HOK.out (Fr.set1 w5 p 0 (.slice (some ⟨g, 0, none⟩) d.S.length cap)) HV5.out.blk (dval_no _ _ _ _ _)) (Fr.drew (Fr.refl _ _)))
  have HIN : Hid ((Tryd.prog.info? 46).map (·.size) = some ({ d.S[a.toNat] with nw := true } : Sec).cells.toArray.size) := Lib.hid (by rw [List.size_toArray, Sec.len HSN.out, info_s])
  have HON : Hid (({ d.S[a.toNat] with nw := true } : Sec).cells.toArray.all (·.oneCell') = true) := Lib.hid (all_oneCell_toArray (Sec.one _))
  have HTH : Hid ((w5.setCell ⟨p, 0, none⟩ (.slice (some ⟨g, 0, none⟩) d.S.length cap)).drew.there g (a.toNat * 130) ({ d.S[a.toNat] with nw := true } : Sec).cells.toArray.size) := Lib.hid (there_bk HG7.out _ _ (by rw [List.size_toArray, Sec.len HSN.out]; omega))
  refine wp_region_noPanic ?_
  refine wp_region_held_drew (S := (Stand [(p, .cells (DC (.slice (some ⟨g, 0, none⟩) d.S.length cap) (.slice ca d.C.length cc) d.fuse d.down) 29 (0, 0)), (w2.heap.size, .cells ({ d.S[a.toNat] with nw := true } : Sec).cells.toArray 46 (0, 0))])) (by kernel_rfl) (Stand.drew HST.out) (fun hHeld0 => ?_)
  generalize (w5.setCell ⟨p, 0, none⟩ (.slice (some ⟨g, 0, none⟩) d.S.length cap)).drew = wd at *
  refine tk0 (i := 0) (v := .pointer (some ⟨p, 0, none⟩)) rfl hHeld0 ?_
  simp only [Act.put, zA, zB, zC, zD, zE, zF]
  refine tk0 (i := 1) (v := .pointer (some ⟨p, 0, none⟩)) rfl hHeld0 ?_
  simp only [Act.put, zA, zB, zC, zD, zE, zF]
  refine tk0 (i := 2) (v := .pointer (some ⟨p, 0, none⟩)) rfl hHeld0 ?_
  simp only [Act.put, zA, zB, zC, zD, zE, zF]
  refine tk (i := 3) (v := .slice (some ⟨g, 0, none⟩) d.S.length cap) rfl (Or.inl ⟨by kernel_rfl, fun w hSw => by have hcl := (fun W h => Bk.cell (Stand.a0 h) 0) w hSw; go_simp⟩) hHeld0 ?_
  simp only [Act.put, zA, zB, zC, zD, zE, zF]
  refine tk0 (i := 4) (v := .int .i64 a) rfl hHeld0 ?_
  simp only [Act.put, zA, zB, zC, zD, zE, zF]
  refine tk (i := 5) (v := .agg ({ d.S[a.toNat] with nw := true } : Sec).cells.toArray) rfl (yields_row (by kernel_rfl) 46 _ rfl (w2.heap.size) rfl 46 ({ d.S[a.toNat] with nw := true } : Sec).cells.toArray (0, 0) _ (fun W h => Stand.a0 (Stand.tl h)) Tryd.underlying46 rfl HIN.out) hHeld0 ?_
  simp only [Act.put, zA, zB, zC, zD, zE, zF]
  refine tk (i := 6) (v := .pointer (some ⟨g, a.toNat * 130, none⟩)) rfl (Or.inl ⟨by kernel_rfl, fun w hSw => by go_simp⟩) hHeld0 ?_
  simp only [Act.put, zA, zB, zC, zD, zE, zF]
  change wpAnyH _ _ _ _ _ 1 #[true, true, true, true, true, true, true, false] _ _
  refine wpAnyH_ready (rs := [7]) (by kernel_rfl) (by simp) ?_
  refine AllReadyH.cons rfl (fun K hK => ?_) AllReadyH.nil
  simp only [zA, zB, zC]
  refine (if_pos (by kernel_rfl)).mpr ?_
  refine wp_store_mid 46 _ _ rfl g (a.toNat * 130) ({ d.S[a.toNat] with nw := true } : Sec).cells.toArray rfl rfl HTH.out HIN.out HON.out ?_
  refine hK.out _ _ (Stand.fr hHeld0 (Fr.sets1 _ _ _ _) (fun r hr => by simp only [List.mem_cons, List.not_mem_nil, or_false] at hr; rcases hr with rfl | rfl; exact hgp; exact hgx)) (fun hHeld1 => ?_)
  clear hK K hHeld0
  change wpAnyH _ _ _ _ _ 0 #[true, true, true, true, true, true, true, true] _ _
  refine wpAnyH_done (by kernel_rfl) ?_ _
  refine NoPanic.normal ?_
  have HEND := Lib.hid hHeld1
  clear hHeld1
  go_wp2_with fail
  go_ret
  have hfs := Fr.sets1 wd g (a.toNat * 130) ({ d.S[a.toNat] with nw := true } : Sec).cells.toArray.toList
  have hcb : ∀ a', ca = some a' → d.C ≠ [] → ¬ a'.block = g := fun a' e hl => by
    subst e
    obtain ⟨b', o', e, hb, -⟩ := RdG.form HV.out.v.rc (List.length_pos_iff.2 hl) Wri.ps
    obtain rfl := Option.some.inj e
    have := HGW.out
    show ¬ b' = g
    omega
  have hrc := RdG.later HV7.out.rc hfs hcb
  have hset := OwnG.set HO5.out (secs_len HOK.out.s) hq ({ d.S[a.toNat] with nw := true } : Sec) (Sec.len HSN.out) (wd.setCells g (a.toNat * 130) ({ d.S[a.toNat] with nw := true } : Sec).cells.toArray.toList) (lyc cur (a.toNat * 130) ({ d.S[a.toNat] with nw := true } : Sec).cells) (sets_bk _ _ _ _ HG7.out) (lay_size _ _ _) (fun j u hj => by
    have hj' := (List.getElem?_eq_some_iff.1 hj).1
    rw [Sec.len HSN.out] at hj'
    rw [lay_get, if_pos (by rw [Sec.len HSN.out]; omega), show a.toNat * 130 + j - a.toNat * 130 = j by omega]
    exact hj) (fun m hm => by rw [lay_get, if_neg (by rw [Sec.len HSN.out]; omega)])
  rw [HHS.out]
  refine ⟨rfl, ⟨⟨some ⟨g, 0, none⟩, cap, ca, cc, ?_, ?_⟩, Fr.newG HF7.out hfs HGW.out⟩⟩
  · have := hfs.keep HP7.out hgp
    simp only [dval, List.length_set]
    exact this
  · exact ⟨hset.rd, hrc, hset.room, hset.max, HV7.out.cn, HV7.out.cm⟩

end Go.Proofs.YtmkmpfnadcmcoaaDoor.DiskHit
namespace Go.Proofs.YtmkmpfnadcmcoaaDoor.RmAliveP
open Go Go.RowKit Go.Proofs.YtmkmpfnadcmcoaaDoor.K Go.Proofs.YtmkmpfnadcmcoaaDoor.EqKit Go.Proofs.YtmkmpfnadcmcoaaDoor.ArrKit Go.Proofs.YtmkmpfnadcmcoaaDoor.HeldKit Go.Proofs.YtmkmpfnadcmcoaaDoor.GKit Go.Proofs.YtmkmpfnadcmcoaaDoor.GRow Go.Proofs.YtmkmpfnadcmcoaaDoor.DiskKit Go.Proofs.YtmkmpfnadcmcoaaDoor.RmKit Go.Proofs.YtmkmpfnadcmcoaaDoor.MapKit Go.Proofs.YtmkmpfnadcmcoaaDoor.RmRight Go.Proofs.YtmkmpfnadcmcoaaDoor.RmTab Go.Proofs.YtmkmpfnadcmcoaaDoor.RmPut Go.Proofs.YtmkmpfnadcmcoaaDoor.RmAsk Go.Proofs.YtmkmpfnadcmcoaaDoor.RmSame Go.Proofs.YtmkmpfnadcmcoaaDoor.DiskRRead Go.Proofs.YtmkmpfnadcmcoaaDoor.RmRead Go.Proofs.YtmkmpfnadcmcoaaDoor.RmReads Go.Proofs.YtmkmpfnadcmcoaaDoor.DiskAct Go.Proofs.YtmkmpfnadcmcoaaDoor.RmSpare Go.Proofs.YtmkmpfnadcmcoaaDoor.RmKeep Go.Proofs.YtmkmpfnadcmcoaaDoor.RmFirst Go.Proofs.YtmkmpfnadcmcoaaDoor.RmFormat Go.Proofs.YtmkmpfnadcmcoaaDoor.DiskNew Go.Proofs.YtmkmpfnadcmcoaaDoor.DiskHit Go.Proofs.YtmkmpfnadcmcoaaDoor.DiskLay
theorem flushD_ok {d : Dk} (h : d.ok) : (flushD d).ok := by
  unfold flushD
  split
  · exact h
  · split
    · exact actD_ok h
    · exact layD_ok (actD_ok h) _
def B7 : List UInt8 := 7 :: List.replicate 127 0
theorem B7_len : B7.length = 128 := by simp [B7]
def MA : Rm := ⟨0, []⟩
def E0 : Dk := newD 28
def E1 (T : List UInt8) : Dk := writeD E0 0 T
def E2 (T : List UInt8) : Dk := writeD (E1 T) 4 T
def C1 (T : List UInt8) : Dk := flushD (E2 T)
def C2 (T : List UInt8) : Dk := hitD (C1 T) 2 3 0 0
section
variable (T U : List UInt8)
end
end Go.Proofs.YtmkmpfnadcmcoaaDoor.RmAliveP
