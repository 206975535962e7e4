/- The theorems that the claim uses, text behind text (part 17). -/
import Derived.Test.YtmkmpfnadcmcoaaDoorXaa
import Derived.Test.YtmkmpfnadcmcoaaDoorXac
import Derived.Test.YtmkmpfnadcmcoaaDoorXao
import Derived.Test.YtmkmpfnadcmcoaaDoorXap
import Derived.Laws.BitsAllLaws
import Derived.Test.YtmkmpfnadcmcoaaDoorProg
import Derived.Outline
import Derived.Deep.QuietTactic
set_option maxRecDepth 100000
set_option linter.unusedVariables false
set_option linter.unusedSimpArgs false
namespace Go.Proofs.YtmkmpfnadcmcoaaDoor.DiskHit
open Go Go.RowKit Go.Proofs.YtmkmpfnadcmcoaaDoor.K Go.Proofs.YtmkmpfnadcmcoaaDoor.EqKit Go.Proofs.YtmkmpfnadcmcoaaDoor.ArrKit Go.Proofs.YtmkmpfnadcmcoaaDoor.HeldKit Go.Proofs.YtmkmpfnadcmcoaaDoor.GKit Go.Proofs.YtmkmpfnadcmcoaaDoor.GRow Go.Proofs.YtmkmpfnadcmcoaaDoor.DiskKit Go.Proofs.YtmkmpfnadcmcoaaDoor.DiskAsk Go.Proofs.YtmkmpfnadcmcoaaDoor.DiskForm Go.Proofs.YtmkmpfnadcmcoaaDoor.DiskAct Go.Proofs.YtmkmpfnadcmcoaaDoor.DiskNew Go.Proofs.YtmkmpfnadcmcoaaDoor.DiskCopy Go.Proofs.YtmkmpfnadcmcoaaDoor.DiskLay Go.Proofs.YtmkmpfnadcmcoaaDoor.DiskFlush
def hitS (s : Sec) (kind place : Int) (y : UInt8) : Sec :=
  if kind = 1 then { s with data := s.data.set place.toNat (s.data.getD place.toNat 0 ^^^ y) } else if kind = 2 then { s with nr := true } else { s with nw := true }
def hitOK (kind place : Int) : Bool := decide ((kind = 1 ∧ 0 ≤ place ∧ place < 128) ∨ kind = 2 ∨ kind = 3)
def hitD (d : Dk) (a kind place : Int) (y : UInt8) : Dk := if (rightB d a && hitOK kind place) = true then { d with S := d.S.set a.toNat (hitS (secAt d a) kind place y) } else d
theorem hitS_ok {s : Sec} (h : s.ok) (kind place : Int) (y : UInt8) : (hitS s kind place y).ok := by
  have hl : s.data.length = 128 := h
  unfold hitS Sec.ok
  split
  · rw [List.length_set]; exact hl
  · split <;> exact hl
theorem hitD_ok {d : Dk} (h : d.ok) (a kind place : Int) (y : UInt8) : (hitD d a kind place y).ok := by
  unfold hitD
  split
  · refine ⟨fun x hx => ?_, h.c, h.f⟩
    rcases List.mem_or_eq_of_mem_set hx with hx | rfl
    · exact h.s x hx
    · refine hitS_ok ?_ kind place y
      unfold secAt
      rw [List.getD_eq_getElem?_getD]
      by_cases hi : a.toNat < d.S.length
      · rw [List.getElem?_eq_getElem hi]; exact h.s _ (List.getElem_mem hi)
      · rw [List.getElem?_eq_none (by omega)]; exact Zs_ok
  · exact h
theorem set_cells {s t : Sec} (hs : s.ok) (ht : t.ok) (j : Nat) (u : Value) (hj : t.cells[j]? = some u) (ho : ∀ i, i ≠ j → t.cells[i]? = s.cells[i]?) : s.cells.toArray.setIfInBounds j u = t.cells.toArray := by
  apply Array.ext_getElem?
  intro i
  have hlt := (List.getElem?_eq_some_iff.1 hj).1
  rw [Sec.len ht] at hlt
  rw [Array.getElem?_setIfInBounds, List.size_toArray, Sec.len hs, List.getElem?_toArray, List.getElem?_toArray]
  by_cases e : j = i
  · subst e; rw [if_pos rfl, if_pos hlt]; exact hj.symm
  · rw [if_neg e]; exact (ho i (fun h => e h.symm)).symm
theorem hit1_cells {s : Sec} (hs : s.ok) {m : Nat} (hm : m < 128) (y : UInt8) : s.cells.toArray.setIfInBounds m (B (s.data.getD m 0 ^^^ y)) = ({ s with data := s.data.set m (s.data.getD m 0 ^^^ y) } : Sec).cells.toArray := by
  have hl : s.data.length = 128 := hs
  have ht : ({ s with data := s.data.set m (s.data.getD m 0 ^^^ y) } : Sec).ok := by show (s.data.set m _).length = 128; rw [List.length_set]; exact hl
  refine set_cells hs ht m _ ?_ (fun i hi => ?_)
  · rw [Sec.data_at ht hm, List.getElem?_map, List.getElem?_set, if_pos rfl, if_pos (by omega)]; rfl
  · by_cases h : i < 128
    · rw [Sec.data_at ht h, Sec.data_at hs h, List.getElem?_map, List.getElem?_map, List.getElem?_set, if_neg (fun e => hi e.symm)]
    · rcases (show i = 128 ∨ i = 129 ∨ 130 ≤ i by omega) with rfl | rfl | h
      · rw [Sec.nr_at ht, Sec.nr_at hs]
      · rw [Sec.nw_at ht, Sec.nw_at hs]
      · rw [List.getElem?_eq_none (by rw [Sec.len ht]; omega), List.getElem?_eq_none (by rw [Sec.len hs]; omega)]
theorem xor_B (a b : UInt8) : bits .xor .u8 (a.toNat : Int) (b.toNat : Int) = ((a ^^^ b).toNat : Int) := by
  rw [u8_xor_nat a.toNat b.toNat a.toNat_lt b.toNat_lt, UInt8.toNat_xor]

theorem hv2S {w : World} {p : Nat} {d : Dk} {sa : Option Addr} {sc : Nat} {ca : Option Addr} {cc : Nat} (h : DAt w p d sa sc ca cc) : RdG Sec.cells 130 w sa d.S := h.v.rs

set_option maxHeartbeats 2000000 in
set_option maxRecDepth 100000 in
theorem hit_k1 (p : Nat) (a kind place : Int) (y : UInt8) (d : Dk) (sa : Option Addr) (sc : Nat) (ca : Option Addr) (cc : Nat) (w : World) (hok : d.ok) (hv : DAt w p d sa sc ca cc) (hr : rightB d a = true) (h1 : kind = 1) (h2 : 0 ≤ place) (h3 : place < 128) : Calls Tryd.prog 9 #[.pointer (some ⟨p, 0, none⟩), .int .i64 a, .int .i64 kind, .int .i64 place, .int .u8 (y.toNat : Int)] w fun e w' => e = .returned (.int .i64 0) ∧ Now w w' p { d with S := d.S.set a.toNat (hitS (secAt d a) kind place y) } := by
  have HRI := Lib.hid (right_calls p a d sa sc ca cc w hok hv)
  have HV := Lib.hid hv
  have hrt := hr
  rw [rightB, Bool.and_eq_true] at hrt
  have htt := thereB_true.1 hrt.1
  have hfm := formed_parts hrt.2
  have ha0 := htt.1
  have ha1 := htt.2
  have hq : a.toNat < d.S.length := by omega
  have hsn := hv.v.sn
  have hsm := hv.v.sm
  have hn2 := hfm.2.1
  have HSX : Hid (secAt d a = d.S[a.toNat]) := Lib.hid (by rw [secAt, List.getD_eq_getElem?_getD, List.getElem?_eq_getElem hq]; rfl)
  have HOK := Lib.hid hok
  obtain ⟨sb, so, hso, -⟩ := hv.v.rs _ hq
  subst hso
  have hsok : d.S[a.toNat].ok := hok.s _ (List.getElem_mem hq)
  have HSO := Lib.hid hsok
  have HIS : Hid ((Tryd.prog.info? 46).map (·.size) = some d.S[a.toNat].cells.length) := Lib.hid (by rw [Sec.len hsok, info_s])
  have HIT : Hid ((Tryd.prog.info? 46).map (·.size) = some d.S[a.toNat].cells.toArray.size) := Lib.hid (by rw [List.size_toArray, Sec.len hsok, info_s])
  have HZT : Hid (ZSC.size = d.S[a.toNat].cells.toArray.size) := Lib.hid ((show ZSC.size = 130 from ZSC_cells).trans (by rw [List.size_toArray, Sec.len hsok]))
  have HOT : Hid (d.S[a.toNat].cells.toArray.all (·.oneCell') = true) := Lib.hid (all_oneCell_toArray (Sec.one _))
  have hzs : ∀ W, (zeroValue 46).run Tryd.prog W = .ok (.agg ZSC) W := by intro W; kernel_rfl
  have hpw : p < w.heap.size := Bk.lt hv.blk
  rw [hr] at HRI
  clear htt hrt hfm hsok
  obtain ⟨vv, hvv⟩ : ∃ vv : UInt8, d.S[a.toNat].data.getD place.toNat 0 = vv := ⟨_, rfl⟩
  have HVV := Lib.hid hvv
  obtain ⟨zz, hzz⟩ : ∃ zz : UInt8, vv ^^^ y = zz := ⟨_, rfl⟩
  have HZZ := Lib.hid hzz
  clear hvv hzz
  have HHS : Hid (hitS (secAt d a) kind place y = ({ d.S[a.toNat] with data := d.S[a.toNat].data.set place.toNat zz } : Sec)) := Lib.hid (by rw [HSX.out]; unfold hitS; rw [if_pos h1, HVV.out, HZZ.out])
  have HCL : Hid (∀ W, DAt W p d (some ⟨sb, so, none⟩) sc ca cc → Calls Tryd.prog 24 #[.slice (some ⟨sb, so, none⟩) d.S.length sc] W fun e w' => ∃ g cap cur, e = .returned (.slice (some ⟨g, 0, none⟩) d.S.length cap) ∧ W.heap.size ≤ g ∧ OwnS w' g cap cur d.S ∧ Fr0 W w') := Lib.hid (fun W h => clone_calls (some ⟨sb, so, none⟩) sc d.S W h.v.rs hok.s (by omega) (by omega))
  have c1 : (kind == 1) = true := by simpa using h1
  have c2 : decide (place < 0) = false := decide_eq_false (by omega)
  have c3 : decide (128 ≤ place) = false := decide_eq_false (by omega)
  have HVJ : Hid (d.S[a.toNat].cells[place.toNat]? = some (.int .u8 (vv.toNat : Int))) := Lib.hid (by
    have hl : d.S[a.toNat].data.length = 128 := HSO.out
    rw [← HVV.out, Sec.data_at HSO.out (by omega), List.getElem?_map, List.getD_eq_getElem?_getD, List.getElem?_eq_getElem (by omega)]; rfl)
  have hxr : bits .xor .u8 (vv.toNat : Int) (y.toNat : Int) = (zz.toNat : Int) := (xor_B vv y).trans (by rw [HZZ.out])
  have HCS : Hid (d.S[a.toNat].cells.toArray.setIfInBounds place.toNat (B zz) = ({ d.S[a.toNat] with data := d.S[a.toNat].data.set place.toNat zz } : Sec).cells.toArray) := Lib.hid (by have := hit1_cells HSO.out (show place.toNat < 128 by omega) y; rw [HVV.out, HZZ.out] at this; exact this)
  clear h1
  clear hv hok hr
  go_enter Tryd.func9, Tryd.ntmps9
  go_wp2_with (first | (go_at_call 20; (with_reducible refine (HRI.out).mono ?_); rintro e w2 ⟨rfl, hf2⟩; have HF2 := Lib.hid hf2; have HV2 := Lib.hid (HV.out.keep hf2); have HRG := Lib.hid (RdG.at (hv2S HV2.out) hq); have q0 : w2.cell? ⟨p, 0, none⟩ = some (.slice (some ⟨sb, so, none⟩) d.S.length sc) := Bk.cell HV2.out.blk 0; have HZ2 := Lib.hid (Bk.new w2 (.cells ZSC 46)); have HX3 : Hid (Bk ((w2.alloc (.cells ZSC 46)).setRow w2.heap.size d.S[a.toNat].cells.toArray) w2.heap.size d.S[a.toNat].cells.toArray 46) := Lib.hid (ArrKit.Bk.row HZ2.out _); have HF3 : Hid (Fr0 w ((w2.alloc (.cells ZSC 46)).setRow w2.heap.size d.S[a.toNat].cells.toArray)) := Lib.hid (ArrKit.Fr.row (Fr.alloc hf2 _) _ _ (.inl hf2.size)); have HV3 := Lib.hid (HV.out.keep HF3.out); have HPX : Hid (p ≠ w2.heap.size) := Lib.hid (by have := hf2.size; omega); have e1 : ((w2.alloc (.cells ZSC 46)).setRow w2.heap.size d.S[a.toNat].cells.toArray).cell? ⟨w2.heap.size, place.toNat, none⟩ = d.S[a.toNat].cells[place.toNat]? := (by rw [Bk.cell HX3.out, List.getElem?_toArray]); rw [HVJ.out] at e1; have z1 := Bk.free HX3.out (place.toNat); have HX4 : Hid (Bk (((w2.alloc (.cells ZSC 46)).setRow w2.heap.size d.S[a.toNat].cells.toArray).setCell ⟨w2.heap.size, place.toNat, none⟩ (.int .u8 (zz.toNat : Int))) w2.heap.size ({ d.S[a.toNat] with data := d.S[a.toNat].data.set place.toNat zz } : Sec).cells.toArray 46) := Lib.hid (by rw [← HCS.out]; exact Bk.set HX3.out (place.toNat) _); have HF4 : Hid (Fr0 w (((w2.alloc (.cells ZSC 46)).setRow w2.heap.size d.S[a.toNat].cells.toArray).setCell ⟨w2.heap.size, place.toNat, none⟩ (.int .u8 (zz.toNat : Int)))) := Lib.hid (Fr.set HF3.out _ _ (.inl hf2.size)); have HV4 := Lib.hid (HV.out.keep HF4.out); have p0 : (((w2.alloc (.cells ZSC 46)).setRow w2.heap.size d.S[a.toNat].cells.toArray).setCell ⟨w2.heap.size, place.toNat, none⟩ (.int .u8 (zz.toNat : Int))).cell? ⟨p, 0, none⟩ = some (.slice (some ⟨sb, so, none⟩) d.S.length sc) := Bk.cell HV4.out.blk 0; have hp4 : p < ((w2.alloc (.cells ZSC 46)).setRow w2.heap.size d.S[a.toNat].cells.toArray).heap.size := HF3.out.lt hpw; have hxp := HPX.out; clear hf2) | ((with_reducible show wpList _ _ _ ({ dst := _, op := Op.load 46 _, type := _, pos := _, after := _, guard := _ } :: _) _ _); refine wpList_load_mid rfl 46 _ rfl sb (so + a.toNat * 130) rfl d.S[a.toNat].cells _ HRG.out Tryd.underlying46 rfl HIS.out ?_) | ((with_reducible show wpList _ _ _ ({ dst := _, op := Op.store 46 _ _, type := _, pos := _, after := _, guard := _ } :: _) _ _); refine wpList_store_row rfl 46 _ _ rfl w2.heap.size d.S[a.toNat].cells.toArray rfl rfl 46 ZSC HZ2.out HIT.out HZT.out HOT.out ?_) | (go_at_call 24; (with_reducible refine (HCL.out _ HV4.out).mono ?_); rintro e w5 ⟨g, cap, cur, rfl, hge, hown, hfr⟩; have HV5 := Lib.hid (HV4.out.keep hfr); have HX5 := Lib.hid (hfr.keep HX4.out (fun h => h)); have HF5 := Lib.hid (HF4.out.then0 hfr); have p5 : w5.cell? ⟨p, 0, none⟩ = some (.slice (some ⟨sb, so, none⟩) d.S.length sc) := Bk.cell HV5.out.blk 0; have z5 := Bk.free HV5.out.blk 0; have HO5 := Lib.hid hown; have hgx : w2.heap.size ≠ g := (by have h1 := Bk.lt HX4.out; omega); have hgp : p ≠ g := (by have h1 := HF4.out.lt hpw; omega); have HGW : Hid (w.heap.size ≤ g) := Lib.hid (Nat.le_trans HF4.out.size hge); clear hge hown hfr))
  have hq2 : a.toNat * 130 + 130 ≤ cur.size := by have h1 := HO5.out.size; have h2 := HO5.out.room; omega
  have HSN : Hid (({ d.S[a.toNat] with data := d.S[a.toNat].data.set place.toNat zz } : Sec).ok) := Lib.hid ((show (d.S[a.toNat].data.set place.toNat _).length = 128 by rw [List.length_set]; exact HSO.out))
  have HP6 : Hid (Bk (w5.setCell ⟨p, 0, none⟩ (.slice (some ⟨g, 0, none⟩) d.S.length cap)) p (DC (.slice (some ⟨g, 0, none⟩) d.S.length cap) (.slice ca d.C.length cc) d.fuse d.down) 29) := Lib.hid (Bk.set HV5.out.blk 0 _)
  have HO6 : Hid (OwnS (w5.setCell ⟨p, 0, none⟩ (.slice (some ⟨g, 0, none⟩) d.S.length cap)) g cap cur d.S) := Lib.hid (OwnG.keep HO5.out (Fr.set1 _ _ _ _) (by omega))
  have HST : Hid (Stand [(p, .cells (DC (.slice (some ⟨g, 0, none⟩) d.S.length cap) (.slice ca d.C.length cc) d.fuse d.down) 29 (0, 0)), (w2.heap.size, .cells ({ d.S[a.toNat] with data := d.S[a.toNat].data.set place.toNat zz } : Sec).cells.toArray 46 (0, 0))] (w5.setCell ⟨p, 0, none⟩ (.slice (some ⟨g, 0, none⟩) d.S.length cap))) := Lib.hid (Stand.cons HP6.out (Stand.cons (Bk.setOther HX5.out _ _ (Ne.symm HPX.out)) (Stand.nil _)))
  have HP7 : Hid (Bk (w5.setCell ⟨p, 0, none⟩ (.slice (some ⟨g, 0, none⟩) d.S.length cap)).drew p (DC (.slice (some ⟨g, 0, none⟩) d.S.length cap) (.slice ca d.C.length cc) d.fuse d.down) 29) := Lib.hid HP6.out
  have HG7 : Hid (Bk (w5.setCell ⟨p, 0, none⟩ (.slice (some ⟨g, 0, none⟩) d.S.length cap)).drew g cur 46) := Lib.hid HO6.out.blk
  have HF7 : Hid (Fr (fun i => i = p) w (w5.setCell ⟨p, 0, none⟩ (.slice (some ⟨g, 0, none⟩) d.S.length cap)).drew) := Lib.hid (Fr.drew (Fr.set (HF5.out.weaken (fun _ _ h => h.elim)) _ _ (.inr rfl)))
  have HV7 : Hid (DV (w5.setCell ⟨p, 0, none⟩ (.slice (some ⟨g, 0, none⟩) d.S.length cap)).drew d (some ⟨sb, so, none⟩) sc ca cc) := Lib.hid (DV.keep (DV.past HV5.out.v HOK.out (Fr.set1 w5 p 0 (.slice (some ⟨g, 0, none⟩) d.S.length cap)) HV5.out.blk (dval_no _ _ _ _ _)) (Fr.drew (Fr.refl _ _)))
  have HIN : Hid ((Tryd.prog.info? 46).map (·.size) = some ({ d.S[a.toNat] with data := d.S[a.toNat].data.set place.toNat zz } : Sec).cells.toArray.size) := Lib.hid (by rw [List.size_toArray, Sec.len HSN.out, info_s])
  have HON : Hid (({ d.S[a.toNat] with data := d.S[a.toNat].data.set place.toNat zz } : Sec).cells.toArray.all (·.oneCell') = true) := Lib.hid (all_oneCell_toArray (Sec.one _))
  have HTH : Hid ((w5.setCell ⟨p, 0, none⟩ (.slice (some ⟨g, 0, none⟩) d.S.length cap)).drew.there g (a.toNat * 130) ({ d.S[a.toNat] with data := d.S[a.toNat].data.set place.toNat zz } : Sec).cells.toArray.size) := Lib.hid (there_bk HG7.out _ _ (by rw [List.size_toArray, Sec.len HSN.out]; omega))
  refine wp_region_noPanic ?_
  refine wp_region_held_drew (S := (Stand [(p, .cells (DC (.slice (some ⟨g, 0, none⟩) d.S.length cap) (.slice ca d.C.length cc) d.fuse d.down) 29 (0, 0)), (w2.heap.size, .cells ({ d.S[a.toNat] with data := d.S[a.toNat].data.set place.toNat zz } : Sec).cells.toArray 46 (0, 0))])) (by kernel_rfl) (Stand.drew HST.out) (fun hHeld0 => ?_)
  generalize (w5.setCell ⟨p, 0, none⟩ (.slice (some ⟨g, 0, none⟩) d.S.length cap)).drew = wd at *
  refine tk0 (i := 0) (v := .pointer (some ⟨p, 0, none⟩)) rfl hHeld0 ?_
  simp only [Act.put, zA, zB, zC, zD, zE, zF]
  refine tk0 (i := 1) (v := .pointer (some ⟨p, 0, none⟩)) rfl hHeld0 ?_
  simp only [Act.put, zA, zB, zC, zD, zE, zF]
  refine tk0 (i := 2) (v := .pointer (some ⟨p, 0, none⟩)) rfl hHeld0 ?_
  simp only [Act.put, zA, zB, zC, zD, zE, zF]
  refine tk (i := 3) (v := .slice (some ⟨g, 0, none⟩) d.S.length cap) rfl (Or.inl ⟨by kernel_rfl, fun w hSw => by have hcl := (fun W h => Bk.cell (Stand.a0 h) 0) w hSw; go_simp⟩) hHeld0 ?_
  simp only [Act.put, zA, zB, zC, zD, zE, zF]
  refine tk0 (i := 4) (v := .int .i64 a) rfl hHeld0 ?_
  simp only [Act.put, zA, zB, zC, zD, zE, zF]
  refine tk (i := 5) (v := .agg ({ d.S[a.toNat] with data := d.S[a.toNat].data.set place.toNat zz } : Sec).cells.toArray) rfl (yields_row (by kernel_rfl) 46 _ rfl (w2.heap.size) rfl 46 ({ d.S[a.toNat] with data := d.S[a.toNat].data.set place.toNat zz } : Sec).cells.toArray (0, 0) _ (fun W h => Stand.a0 (Stand.tl h)) Tryd.underlying46 rfl HIN.out) hHeld0 ?_
  simp only [Act.put, zA, zB, zC, zD, zE, zF]
  refine tk (i := 6) (v := .pointer (some ⟨g, a.toNat * 130, none⟩)) rfl (Or.inl ⟨by kernel_rfl, fun w hSw => by go_simp⟩) hHeld0 ?_
  simp only [Act.put, zA, zB, zC, zD, zE, zF]
  change wpAnyH _ _ _ _ _ 1 #[true, true, true, true, true, true, true, false] _ _
  refine wpAnyH_ready (rs := [7]) (by kernel_rfl) (by simp) ?_
  refine AllReadyH.cons rfl (fun K hK => ?_) AllReadyH.nil
  simp only [zA, zB, zC]
  refine (if_pos (by kernel_rfl)).mpr ?_
  refine wp_store_mid 46 _ _ rfl g (a.toNat * 130) ({ d.S[a.toNat] with data := d.S[a.toNat].data.set place.toNat zz } : Sec).cells.toArray rfl rfl HTH.out HIN.out HON.out ?_
  refine hK.out _ _ (Stand.fr hHeld0 (Fr.sets1 _ _ _ _) (fun r hr => by simp only [List.mem_cons, List.not_mem_nil, or_false] at hr; rcases hr with rfl | rfl; exact hgp; exact hgx)) (fun hHeld1 => ?_)
  clear hK K hHeld0
  change wpAnyH _ _ _ _ _ 0 #[true, true, true, true, true, true, true, true] _ _
  refine wpAnyH_done (by kernel_rfl) ?_ _
  refine NoPanic.normal ?_
  have HEND := Lib.hid hHeld1
  clear hHeld1
  go_wp2_with fail
  go_ret
  have hfs := Fr.sets1 wd g (a.toNat * 130) ({ d.S[a.toNat] with data := d.S[a.toNat].data.set place.toNat zz } : Sec).cells.toArray.toList
  have hcb : ∀ a', ca = some a' → d.C ≠ [] → ¬ a'.block = g := fun a' e hl => by
    subst e
    obtain ⟨b', o', e, hb, -⟩ := RdG.form HV.out.v.rc (List.length_pos_iff.2 hl) Wri.ps
    obtain rfl := Option.some.inj e
    have := HGW.out
    show ¬ b' = g
    omega
  have hrc := RdG.later HV7.out.rc hfs hcb
  have hset := OwnG.set HO5.out (secs_len HOK.out.s) hq ({ d.S[a.toNat] with data := d.S[a.toNat].data.set place.toNat zz } : Sec) (Sec.len HSN.out) (wd.setCells g (a.toNat * 130) ({ d.S[a.toNat] with data := d.S[a.toNat].data.set place.toNat zz } : Sec).cells.toArray.toList) (lyc cur (a.toNat * 130) ({ d.S[a.toNat] with data := d.S[a.toNat].data.set place.toNat zz } : Sec).cells) (sets_bk _ _ _ _ HG7.out) (lay_size _ _ _) (fun j u hj => by
    have hj' := (List.getElem?_eq_some_iff.1 hj).1
    rw [Sec.len HSN.out] at hj'
    rw [lay_get, if_pos (by rw [Sec.len HSN.out]; omega), show a.toNat * 130 + j - a.toNat * 130 = j by omega]
    exact hj) (fun m hm => by rw [lay_get, if_neg (by rw [Sec.len HSN.out]; omega)])
  rw [HHS.out]
  refine ⟨rfl, ⟨⟨some ⟨g, 0, none⟩, cap, ca, cc, ?_, ?_⟩, Fr.newG HF7.out hfs HGW.out⟩⟩
  · have := hfs.keep HP7.out hgp
    simp only [dval, List.length_set]
    exact this
  · exact ⟨hset.rd, hrc, hset.room, hset.max, HV7.out.cn, HV7.out.cm⟩

end Go.Proofs.YtmkmpfnadcmcoaaDoor.DiskHit
namespace Go.Proofs.YtmkmpfnadcmcoaaDoor.RmAliveP
open Go Go.RowKit Go.Proofs.YtmkmpfnadcmcoaaDoor.K Go.Proofs.YtmkmpfnadcmcoaaDoor.EqKit Go.Proofs.YtmkmpfnadcmcoaaDoor.ArrKit Go.Proofs.YtmkmpfnadcmcoaaDoor.HeldKit Go.Proofs.YtmkmpfnadcmcoaaDoor.GKit Go.Proofs.YtmkmpfnadcmcoaaDoor.GRow Go.Proofs.YtmkmpfnadcmcoaaDoor.DiskKit Go.Proofs.YtmkmpfnadcmcoaaDoor.RmKit Go.Proofs.YtmkmpfnadcmcoaaDoor.MapKit Go.Proofs.YtmkmpfnadcmcoaaDoor.RmRight Go.Proofs.YtmkmpfnadcmcoaaDoor.RmTab Go.Proofs.YtmkmpfnadcmcoaaDoor.RmPut Go.Proofs.YtmkmpfnadcmcoaaDoor.RmAsk Go.Proofs.YtmkmpfnadcmcoaaDoor.RmSame Go.Proofs.YtmkmpfnadcmcoaaDoor.DiskRRead Go.Proofs.YtmkmpfnadcmcoaaDoor.RmRead Go.Proofs.YtmkmpfnadcmcoaaDoor.RmReads Go.Proofs.YtmkmpfnadcmcoaaDoor.DiskAct Go.Proofs.YtmkmpfnadcmcoaaDoor.RmSpare Go.Proofs.YtmkmpfnadcmcoaaDoor.RmKeep Go.Proofs.YtmkmpfnadcmcoaaDoor.RmFirst Go.Proofs.YtmkmpfnadcmcoaaDoor.RmFormat Go.Proofs.YtmkmpfnadcmcoaaDoor.DiskNew Go.Proofs.YtmkmpfnadcmcoaaDoor.DiskHit Go.Proofs.YtmkmpfnadcmcoaaDoor.DiskLay
theorem flushD_ok {d : Dk} (h : d.ok) : (flushD d).ok := by
  unfold flushD
  split
  · exact h
  · split
    · exact actD_ok h
    · exact layD_ok (actD_ok h) _
def B7 : List UInt8 := 7 :: List.replicate 127 0
theorem B7_len : B7.length = 128 := by simp [B7]
def MA : Rm := ⟨0, []⟩
def E0 : Dk := newD 28
def E1 (T : List UInt8) : Dk := writeD E0 0 T
def E2 (T : List UInt8) : Dk := writeD (E1 T) 4 T
def C1 (T : List UInt8) : Dk := flushD (E2 T)
def C2 (T : List UInt8) : Dk := hitD (C1 T) 2 3 0 0
section
variable (T U : List UInt8)
end
end Go.Proofs.YtmkmpfnadcmcoaaDoor.RmAliveP
namespace Go.Proofs.YtmkmpfnadcmcoaaDoor.RmWrX
open Go Go.RowKit Go.Proofs.YtmkmpfnadcmcoaaDoor.K Go.Proofs.YtmkmpfnadcmcoaaDoor.EqKit Go.Proofs.YtmkmpfnadcmcoaaDoor.ArrKit Go.Proofs.YtmkmpfnadcmcoaaDoor.HeldKit Go.Proofs.YtmkmpfnadcmcoaaDoor.GKit Go.Proofs.YtmkmpfnadcmcoaaDoor.GRow Go.Proofs.YtmkmpfnadcmcoaaDoor.DiskKit Go.Proofs.YtmkmpfnadcmcoaaDoor.RmKit Go.Proofs.YtmkmpfnadcmcoaaDoor.MapKit Go.Proofs.YtmkmpfnadcmcoaaDoor.RmRight Go.Proofs.YtmkmpfnadcmcoaaDoor.RmTab Go.Proofs.YtmkmpfnadcmcoaaDoor.RmPut Go.Proofs.YtmkmpfnadcmcoaaDoor.RmAsk Go.Proofs.YtmkmpfnadcmcoaaDoor.RmSame Go.Proofs.YtmkmpfnadcmcoaaDoor.DiskRRead Go.Proofs.YtmkmpfnadcmcoaaDoor.RmRead Go.Proofs.YtmkmpfnadcmcoaaDoor.RmReads Go.Proofs.YtmkmpfnadcmcoaaDoor.DiskAct Go.Proofs.YtmkmpfnadcmcoaaDoor.DiskLay Go.Proofs.YtmkmpfnadcmcoaaDoor.RmSpare Go.Proofs.YtmkmpfnadcmcoaaDoor.RmKeep Go.Proofs.YtmkmpfnadcmcoaaDoor.RmAliveP
theorem flushD_S (d : Dk) : (flushD d).S.length = d.S.length := by
  unfold flushD
  split
  · rfl
  · split
    · rw [(actD_S2 d).1]
    · show (laid _ _ _ _).length = _
      rw [laid_len, (actD_S2 d).1]
theorem flushD_C (d : Dk) : (flushD d).C.length ≤ d.C.length := by
  unfold flushD
  split
  · omega
  · split
    · rw [(actD_S2 d).2]; omega
    · show ([] : List Wri).length ≤ _
      simp
theorem wf_small {x : Int} (h0 : 0 ≤ x) (h1 : x ≤ 4611686018427387905) : (Lit.int .i64 x).wf = true := by
  simp [Lit.wf, IntKind.min, IntKind.max, IntKind.signed, IntKind.bits]; omega
theorem spareR_ok {m : Rm} {b : List UInt8} (hb : b.length = 128) : ∀ (k : Nat) (q : Int) (d : Dk), d.ok → 0 ≤ q → q + k ≤ 5000 → (spareR m b k q d).2.2.ok ∧ (spareR m b k q d).2.2.S.length = d.S.length ∧ (spareR m b k q d).2.2.C.length ≤ d.C.length + k ∧ 0 ≤ (spareR m b k q d).1 ∧ (spareR m b k q d).1 ≤ q + k ∧ ((spareR m b k q d).2.1 = 0 → q ≤ (spareR m b k q d).1 ∧ (spareR m b k q d).1 < q + k ∧ m.ps.any (fun p => p.2 == (spareR m b k q d).1) = false)
  | 0, q, d, h, h0, h1 => ⟨h, rfl, by show d.C.length ≤ _; omega, by show (0 : Int) ≤ 0; omega, by show (0 : Int) ≤ _; omega, fun e => by cases e⟩
  | k + 1, q, d, h, h0, h1 => by
    rw [spareR]
    split
    · obtain ⟨a1, a2, a3, a4, a5, a6⟩ := spareR_ok hb k (q + 1) d h (by omega) (by omega)
      exact ⟨a1, a2, by omega, a4, by omega, fun e => by obtain ⟨b1, b2, b3⟩ := a6 e; exact ⟨by omega, by omega, b3⟩⟩
    · rename_i hu
      split
      · obtain ⟨a1, a2, a3, a4, a5, a6⟩ := spareR_ok hb k (q + 1) (writeD d q b) (writeD_ok h hb (wf_small h0 (by omega))) (by omega) (by omega)
        have h3 := writeD_C d q b
        rw [writeD_S] at a2
        exact ⟨a1, a2, by omega, a4, by omega, fun e => by obtain ⟨b1, b2, b3⟩ := a6 e; exact ⟨by omega, by omega, b3⟩⟩
      · have h3 := writeD_C d q b
        exact ⟨writeD_ok h hb (wf_small h0 (by omega)), by rw [writeD_S], by show (writeD d q b).C.length ≤ _; omega, h0, by show q ≤ _; omega, fun _ => ⟨by show q ≤ q; omega, by show q < _; omega, Bool.eq_false_iff.2 hu⟩⟩
theorem keepX_ok {d : Dk} {m : Rm} (h : d.ok) : (keepX d m).2.ok ∧ (keepX d m).2.S.length = d.S.length ∧ (keepX d m).2.C.length ≤ d.C.length + 2 := by
  unfold keepX
  split
  · rename_i ht
    have hp := tab_parts ht
    have hl := half_lo hp.1
    have hL := tabL_len m hp.2.2.2.1
    have o1 := writeD_ok h hL (wf_small (x := m.gen % 2) (by omega) (by omega))
    have o2 := writeD_ok o1 hL (wf_small (x := half (d.S.length : Int) + m.gen % 2) (by omega) (by omega))
    have c1 := writeD_C d (m.gen % 2) (tabL m)
    have c2 := writeD_C (writeD d (m.gen % 2) (tabL m)) (half (d.S.length : Int) + m.gen % 2) (tabL m)
    split
    · exact ⟨o1, by rw [writeD_S], by show (writeD _ _ _).C.length ≤ _; omega⟩
    · split
      · exact ⟨o2, by rw [writeD_S, writeD_S], by show (writeD _ _ _).C.length ≤ _; omega⟩
      · split
        · exact ⟨o2, by rw [writeD_S, writeD_S], by show (writeD _ _ _).C.length ≤ _; omega⟩
        · have c3 := flushD_C (writeD (writeD d (m.gen % 2) (tabL m)) (half (d.S.length : Int) + m.gen % 2) (tabL m))
          exact ⟨flushD_ok o2, by rw [flushD_S, writeD_S, writeD_S], by show (flushD _).C.length ≤ _; omega⟩
  · exact ⟨h, rfl, by show d.C.length ≤ _; omega⟩
/-- a table with another sector for one -/
def nextM (m : Rm) (n to : Int) : Rm := if plc m n < 0 then ⟨m.gen + 1, m.ps ++ [(n, to)]⟩ else ⟨m.gen + 1, m.ps.set (plc m n).toNat (n, to)⟩
theorem plc_cases (m : Rm) (n : Int) : (plc m n = -1 ∧ ∀ x ∈ m.ps, (x.1 == n) = false) ∨ ∃ k : Nat, ∃ hk : k < m.ps.length, plc m n = k ∧ m.ps[k].1 = n ∧ ∀ q (hq : q < k), ((m.ps[q]'(by omega)).1 == n) = false := by
  rcases idxI_cases (fun p => p.1 == n) m.ps with h | ⟨k, hk, h1, h2, h3⟩
  · exact .inl h
  · exact .inr ⟨k, hk, h1, by simpa using h2, h3⟩
theorem nextM_no {m : Rm} {n : Int} (to : Int) (h : plc m n < 0) : nextM m n to = ⟨m.gen + 1, m.ps ++ [(n, to)]⟩ := by unfold nextM; rw [if_pos h]
theorem nextM_at {m : Rm} {n : Int} {k : Nat} (to : Int) (h : plc m n = k) : nextM m n to = ⟨m.gen + 1, m.ps.set k (n, to)⟩ := by unfold nextM; rw [if_neg (by omega), h]; rfl
theorem nextM_ok {m : Rm} {n to : Int} (h : m.ok) (hn : (Lit.int .i64 n).wf = true) (ht : (Lit.int .i64 to).wf = true) (hg : (Lit.int .i64 (m.gen + 1)).wf = true) : (nextM m n to).ok := by
  unfold nextM
  split
  · refine ⟨hg, fun x hx => ?_⟩
    simp only [List.mem_append, List.mem_cons, List.not_mem_nil, or_false] at hx
    rcases hx with hx | rfl
    · exact h.p x hx
    · exact ⟨hn, ht⟩
  · refine ⟨hg, fun x hx => ?_⟩
    rcases List.mem_or_eq_of_mem_set hx with hx | rfl
    · exact h.p x hx
    · exact ⟨hn, ht⟩
theorem nextM_len (m : Rm) (n to : Int) : (nextM m n to).ps.length ≤ m.ps.length + 1 := by
  unfold nextM; split
  · simp
  · simp
theorem asked_parts {d : Dk} {m : Rm} {n : Int} (h : askedB d m n = true) : tabB m (d.S.length : Int) = true ∧ usableB n (half (d.S.length : Int)) = true ∧ hvI d = half (d.S.length : Int) ∧ formedB d = true ∧ half (d.S.length : Int) ≠ 0 := by
  unfold askedB at h
  simp only [Bool.and_eq_true] at h
  have h2 := (tab_parts h.2).1
  have h1 := h.1
  unfold hvI at h1 ⊢
  split at h1
  · rename_i hf
    exact ⟨h.2, h1, by rw [if_pos hf], hf, h2⟩
  · simp [usableB] at h1
def spX (d : Dk) (m : Rm) (n : Int) (b : List UInt8) : Int × Int × Dk := spareR m b 20 (2 * half (d.S.length : Int)) (writeD d (atI m n) b)
/-- what Write does: its error, the disk, the table -/
def wrX (d : Dk) (m : Rm) (n : Int) (b : List UInt8) : Int × Dk × Rm :=
  if askedB d m n = false then (1, d, m) else
  if writeE d (atI m n) ≠ 2 then (writeE d (atI m n), writeD d (atI m n) b, m) else
  if (spX d m n b).2.1 ≠ 0 then ((spX d m n b).2.1, (spX d m n b).2.2, m) else
  if plc m n < 0 ∧ m.ps.length = 20 then (17, (spX d m n b).2.2, m) else
  if flushE (spX d m n b).2.2 ≠ 0 then (flushE (spX d m n b).2.2, flushD (spX d m n b).2.2, m) else
  if (keepX (flushD (spX d m n b).2.2) (nextM m n (spX d m n b).1)).1 ≠ 0 then ((keepX (flushD (spX d m n b).2.2) (nextM m n (spX d m n b).1)).1, (keepX (flushD (spX d m n b).2.2) (nextM m n (spX d m n b).1)).2, m) else
  (0, (keepX (flushD (spX d m n b).2.2) (nextM m n (spX d m n b).1)).2, nextM m n (spX d m n b).1)
theorem wrX_no {d : Dk} {m : Rm} {n : Int} {b : List UInt8} (h : askedB d m n = false) : wrX d m n b = (1, d, m) := by unfold wrX; rw [if_pos h]
section
variable {d d1 d2 : Dk} {m : Rm} {n q to e : Int} {b : List UInt8} (h : askedB d m n = true) (hq : atI m n = q)
include h hq
theorem wrX_1 (h1 : writeE d q ≠ 2) : wrX d m n b = (writeE d q, writeD d q b, m) := by
  subst hq
  unfold wrX; rw [if_neg (by simp [h]), if_pos h1]
variable (h1 : writeE d q = 2) (hs : spareR m b 20 (2 * half (d.S.length : Int)) (writeD d q b) = (to, e, d2))
include h1 hs
theorem wrX_2 (h2 : e ≠ 0) : wrX d m n b = (e, d2, m) := by
  subst hq
  have hs' : spX d m n b = (to, e, d2) := hs
  unfold wrX; rw [hs', if_neg (by simp [h]), if_neg (by omega), if_pos h2]
theorem wrX_3 (h2 : e = 0) (h3 : plc m n < 0 ∧ m.ps.length = 20) : wrX d m n b = (17, d2, m) := by
  subst hq
  have hs' : spX d m n b = (to, e, d2) := hs
  unfold wrX; rw [hs', if_neg (by simp [h]), if_neg (by omega), if_neg (by show ¬ e ≠ 0; omega), if_pos h3]
theorem wrX_4 (h2 : e = 0) (h3 : ¬ (plc m n < 0 ∧ m.ps.length = 20)) (h4 : flushE d2 ≠ 0) : wrX d m n b = (flushE d2, flushD d2, m) := by
  subst hq
  have hs' : spX d m n b = (to, e, d2) := hs
  unfold wrX; rw [hs', if_neg (by simp [h]), if_neg (by omega), if_neg (by show ¬ e ≠ 0; omega), if_neg h3, if_pos h4]
theorem wrX_5 (h2 : e = 0) (h3 : ¬ (plc m n < 0 ∧ m.ps.length = 20)) (h4 : flushE d2 = 0) (h5 : (keepX (flushD d2) (nextM m n to)).1 ≠ 0) : wrX d m n b = ((keepX (flushD d2) (nextM m n to)).1, (keepX (flushD d2) (nextM m n to)).2, m) := by
  subst hq
  have hs' : spX d m n b = (to, e, d2) := hs
  unfold wrX; rw [hs', if_neg (by simp [h]), if_neg (by omega), if_neg (by show ¬ e ≠ 0; omega), if_neg h3, if_neg (by show ¬ flushE d2 ≠ 0; omega), if_pos h5]
theorem wrX_6 (h2 : e = 0) (h3 : ¬ (plc m n < 0 ∧ m.ps.length = 20)) (h4 : flushE d2 = 0) (h5 : (keepX (flushD d2) (nextM m n to)).1 = 0) : wrX d m n b = (0, (keepX (flushD d2) (nextM m n to)).2, nextM m n to) := by
  subst hq
  have hs' : spX d m n b = (to, e, d2) := hs
  unfold wrX; rw [hs', if_neg (by simp [h]), if_neg (by omega), if_neg (by show ¬ e ≠ 0; omega), if_neg h3, if_neg (by show ¬ flushE d2 ≠ 0; omega), if_neg (by show ¬ (keepX (flushD d2) (nextM m n to)).1 ≠ 0; omega)]
end
end Go.Proofs.YtmkmpfnadcmcoaaDoor.RmWrX
namespace Go.Proofs.YtmkmpfnadcmcoaaDoor.PtrKit
open Go Go.RowKit Go.Proofs.YtmkmpfnadcmcoaaDoor.K Go.Proofs.YtmkmpfnadcmcoaaDoor.EqKit
/-- a pointer's cells -/
def PC (a b : Int) (s : List UInt8) : List Value := .int .i64 a :: .int .i64 b :: s.map B
theorem PC_length (a b : Int) (s : List UInt8) : (PC a b s).length = s.length + 2 := by simp [PC]
theorem cells_p : Tryd.prog.cellsOf 37 = 34 := by kernel_rfl
theorem cells_i : Tryd.prog.cellsOf 3 = 1 := by kernel_rfl
theorem cells_s : Tryd.prog.cellsOf 35 = 32 := by kernel_rfl
theorem cells_u : Tryd.prog.cellsOf 5 = 1 := by kernel_rfl
theorem lits_int {P : Program} {t : TypeId} {k : IntKind} {n : Int} (d : Nat) (ht : P.underlying t = some (.int k)) (hw : (Lit.int k n).wf = true) : P.keyLits (d + 1) t [.int k n] = some [Lit.int k n] := by
  unfold Program.keyLits
  rw [ht]
  simp [hw]
theorem lits_bytes (d : Nat) (s : List UInt8) (hs : s.length = 32) : Tryd.prog.keyLits (d + 2) 35 (s.map B) = some (s.map fun v => Lit.int .u8 (v.toNat : Int)) := by
  have h := lits_row (k := .u8) d Tryd.underlying35 Tryd.underlying5 cells_u cells_s (s.map fun v => (v.toNat : Int)) (by simpa using hs) (fun z hz => by
    obtain ⟨v, -, rfl⟩ := List.mem_map.1 hz
    exact wf_u8 v)
  rw [List.map_map, List.map_map] at h
  exact h
theorem lits_ptr (a b : Int) (s : List UInt8) (hs : s.length = 32) (ha : (Lit.int .i64 a).wf = true) (hb : (Lit.int .i64 b).wf = true) : Tryd.prog.keyLits 3 37 (PC a b s) = some (Lit.int .i64 a :: Lit.int .i64 b :: s.map fun v => Lit.int .u8 (v.toNat : Int)) := by
  unfold Program.keyLits
  rw [Tryd.underlying37]
  have h32 : (s.map B).take 32 = s.map B := List.take_of_length_le (by simp; omega)
  simp [PC, cells_p, cells_i, cells_s, hs, h32, lits_int 1 Tryd.underlying3 ha, lits_int 1 Tryd.underlying3 hb, lits_bytes 0 s hs]
theorem guard_p : Tryd.prog.eqGuardType Tryd.prog.depth 37 = false := by kernel_rfl
/-- two pointers -/
theorem eq_ptr (a b a' b' : Int) (s s' : List UInt8) (hs : s.length = 32) (hs' : s'.length = 32) (ha : (Lit.int .i64 a).wf = true) (hb : (Lit.int .i64 b).wf = true) (ha' : (Lit.int .i64 a').wf = true) (hb' : (Lit.int .i64 b').wf = true) (W : World) :
    (Op.equalIn 10000 37 (.agg (PC a b s).toArray) (.agg (PC a' b' s').toArray)).run Tryd.prog W = .ok (decide (a = a' ∧ b = b' ∧ s = s')) W := by
  obtain ⟨r, hr, hiff⟩ := run_equalIn_deep 9997 3 37 (by kernel_rfl) W 3 3 (.agg (PC a b s).toArray) (.agg (PC a' b' s').toArray) _ _ (by simp [Value.formed, Tryd.underlying37, cells_p, PC, hs]) (by simp [Value.formed, Tryd.underlying37, cells_p, PC, hs']) (lits_ptr a b s hs ha hb) (lits_ptr a' b' s' hs' ha' hb')
  rw [show (10000 : Nat) = 9997 + 3 from rfl, hr]
  congr 1
  rw [Bool.eq_iff_iff, hiff, decide_eq_true_eq]
  constructor
  · intro h
    simp only [List.cons.injEq, Lit.int.injEq, true_and] at h
    exact ⟨h.1, h.2.1, map_inj (fun x y e => UInt8.toNat_inj.1 (by simp only [Lit.int.injEq, true_and] at e; exact Int.ofNat.inj e)) h.2.2⟩
  · rintro ⟨rfl, rfl, rfl⟩; rfl

end Go.Proofs.YtmkmpfnadcmcoaaDoor.PtrKit
namespace Go.Proofs.YtmkmpfnadcmcoaaDoor.PtrAsk
open Go Go.RowKit Go.Proofs.YtmkmpfnadcmcoaaDoor.K Go.Proofs.YtmkmpfnadcmcoaaDoor.EqKit Go.Proofs.YtmkmpfnadcmcoaaDoor.PtrKit Go.Proofs.YtmkmpfnadcmcoaaDoor.ArrKit Go.Proofs.YtmkmpfnadcmcoaaDoor.HeldKit
theorem build_eq {P : Program} {ops : Array Oper} {rest : List Oper} {o : Oper} {a : Act} {w : World} {Q : Exit → Act → World → Prop} (hg : o.guard = none) (t : TypeId) (parts : Array (Nat × Operand)) (ho : o.op = .build t parts) (cs : Array Value)
    (hf : P.built t (parts.map fun (i, x) => (i, a.eval x)).toList = some cs) (h : wpList P ops Q rest (a.put o.dst (.agg cs)) w) : wpList P ops Q (o :: rest) a w :=
  wpList_build hg t parts ho (by rw [hf]; rfl) (by rw [hf]; exact h)
def Z : List UInt8 := List.replicate 32 0
theorem Z_len : Z.length = 32 := by simp [Z]
theorem ret_bb {a b : Bool} (h : a = b) : Ending.returned (.bool a) = .returned (.bool b) := by rw [h]
def HOLE : Array Value := (PC (-1) (-1) Z).toArray
def isH (a b : Int) (s : List UInt8) : Bool := decide (a = -1 ∧ b = -1 ∧ s = Z)
def secB (n : Int) : Bool := decide (0 ≤ n ∧ n < 4096)
def rightB (a b : Int) (s : List UInt8) : Bool := isH a b s || (secB a && (decide (b = -1) || (secB b && !decide (b = a))))
theorem info_p : (Tryd.prog.info? 37).map (·.size) = some 34 := by kernel_rfl
def ZERO : Array Value := #[.int .i64 0, .int .i64 0, .int .u8 0, .int .u8 0, .int .u8 0, .int .u8 0, .int .u8 0, .int .u8 0, .int .u8 0, .int .u8 0, .int .u8 0, .int .u8 0, .int .u8 0, .int .u8 0, .int .u8 0, .int .u8 0, .int .u8 0, .int .u8 0, .int .u8 0, .int .u8 0, .int .u8 0, .int .u8 0, .int .u8 0, .int .u8 0, .int .u8 0, .int .u8 0, .int .u8 0, .int .u8 0, .int .u8 0, .int .u8 0, .int .u8 0, .int .u8 0, .int .u8 0, .int .u8 0]
theorem HOLE_one : HOLE.all (·.oneCell') = true := by kernel_rfl
set_option maxHeartbeats 2000000 in
set_option maxRecDepth 100000 in
theorem hole_calls (w : World) : Calls Tryd.prog 51 #[] w fun e w' => e = .returned (.agg HOLE) ∧ Fr0 w w' := by
  go_enter Tryd.func51, Tryd.ntmps51
  have HN := Lib.hid (Bk.new w (.cells ZERO 37))
  go_wp2_with (first | (refine build_eq rfl 37 _ rfl HOLE (by kernel_rfl) ?_) | (refine wpList_store_row rfl 37 _ _ rfl w.heap.size HOLE rfl rfl 37 ZERO HN.out (by kernel_rfl) (by kernel_rfl) HOLE_one ?_))
  refine fin_c w.heap.size 37 HOLE (by rfl) (by rfl) (by rfl) Tryd.underlying37 (by rfl) (by kernel_rfl) (ArrKit.Bk.row HN.out _) ?_
  exact ⟨rfl, ArrKit.Fr.row (Fr.alloc (Fr.refl _ _) _) _ _ (.inl (Nat.le_refl _))⟩
set_option maxHeartbeats 2000000 in
set_option maxRecDepth 100000 in
theorem sec_calls (n : Int) (w : World) : Calls Tryd.prog 37 #[.int .i64 n] w fun e w' => e = .returned (.bool (secB n)) ∧ w = w' := by
  by_cases h1 : 0 ≤ n
  · have c1 : decide (0 ≤ n) = true := decide_eq_true h1
    go_enter Tryd.func37, Tryd.ntmps37
    go_wp2
    all_goals go_ret
    all_goals exact ⟨ret_bb (by simp only [secB]; first | rfl | (rw [Bool.eq_iff_iff]; simp; omega)), rfl⟩
  · have c1 : decide (0 ≤ n) = false := decide_eq_false h1
    go_enter Tryd.func37, Tryd.ntmps37
    go_wp2
    all_goals go_ret
    all_goals exact ⟨ret_bb (by simp only [secB]; symm; rw [decide_eq_false_iff_not]; omega), rfl⟩
set_option maxHeartbeats 2000000 in
set_option maxRecDepth 100000 in
theorem ish_calls (a b : Int) (s : List UInt8) (w : World) (hs : s.length = 32) (ha : (Lit.int .i64 a).wf = true) (hb : (Lit.int .i64 b).wf = true) :
    Calls Tryd.prog 28 #[.agg (PC a b s).toArray] w fun e w' => e = .returned (.bool (isH a b s)) ∧ Fr0 w w' := by
  have heq := eq_ptr a b (-1) (-1) s Z hs Z_len ha hb (by decide) (by decide)
  change ∀ W, (Op.equalIn 10000 37 (.agg (PC a b s).toArray) (.agg HOLE)).run Tryd.prog W = .ok (isH a b s) W at heq
  have hz : (Tryd.prog.info? 37).map (·.size) = some (PC a b s).toArray.size := by rw [info_p, List.size_toArray, PC_length, hs]
  have HI := Lib.hid hz
  generalize (PC a b s).toArray = X at *
  generalize isH a b s = r at *
  clear hs ha hb hz
  have H0 : Hid (Held w [(w.heap.size, .cells X 37 (0, 0))] (w.alloc (.cells X 37))) := Lib.hid (Held.cons (Bk.new w _) (Held.nil (Fr.alloc (Fr.refl _ _) _)))
  go_enter Tryd.func28, Tryd.ntmps28
  go_wp2_with fail
  refine wp_region_noPanic ?_
  refine wp_region_held_drew (S := (Held w [(w.heap.size, .cells X 37 (0, 0))])) (by kernel_rfl) (Held.drew H0.out) (fun hHeld0 => ?_)
  refine tk (i := 0) (v := .agg X) rfl (yields_row (by kernel_rfl) 37 _ rfl w.heap.size rfl 37 X (0, 0) _ (fun w h => Held.a0 h) Tryd.underlying37 rfl HI.out) hHeld0 ?_
  simp only [Act.put, zA, zB, zC, zD, zE, zF]
  change wpAnyH _ _ _ _ _ 3 #[true, false, false, false] _ _
  refine wpAnyH_ready (rs := [1]) (by kernel_rfl) (by simp) ?_
  refine AllReadyH.cons rfl (fun K hK => ?_) AllReadyH.nil
  simp only [zA, zB, zC]
  refine (if_pos (by kernel_rfl)).mpr ?_
  go_wp2_with fail
  refine (hole_calls _).mono ?_
  rintro e wx0 ⟨rfl, hfx0⟩
  dsimp only
  refine hK.out _ _ (Held.keep hfx0 hHeld0) (fun hHeld1 => ?_)
  clear hK K hHeld0
  refine tk (i := 2) (v := .bool r) rfl (Or.inl ⟨by kernel_rfl, fun w hSw => run_eql_op rfl rfl rfl guard_p heq w⟩) hHeld1 ?_
  simp only [Act.put, zA, zB, zC, zD, zE, zF]
  change wpAnyH _ _ _ _ _ 1 #[true, true, true, false] _ _
  refine wpAnyH_ready (rs := [3]) (by kernel_rfl) (by simp) ?_
  refine AllReadyH.cons rfl (fun K hK => ?_) AllReadyH.nil
  simp only [zA, zB, zC]
  refine (if_pos (by kernel_rfl)).mpr ?_
  go_wp2_with fail
  refine hK.out _ _ hHeld1 (fun _ => ?_)
  clear hK K
  change wpAnyH _ _ _ _ _ 0 #[true, true, true, true] _ _
  refine wpAnyH_done (by kernel_rfl) ?_ _
  refine NoPanic.normal ?_
  have HFIN := Lib.hid (Held.f hHeld1)
  have HEND := Lib.hid hHeld1
  clear hHeld1
  go_wp2_with fail
  all_goals go_ret
  exact ⟨rfl, HFIN.out⟩
set_option maxHeartbeats 2000000 in
set_option maxRecDepth 100000 in
theorem right_1 (a b : Int) (s : List UInt8) (w : World) (hs : s.length = 32) (ha : (Lit.int .i64 a).wf = true) (hb : (Lit.int .i64 b).wf = true) (k0 : isH a b s = true) :
    Calls Tryd.prog 38 #[.agg (PC a b s).toArray] w fun e w' => e = .returned (.bool (true)) ∧ Fr0 w w' := by
  have HS : Hid (∀ w, _) := Lib.hid (fun w => ish_calls a b s w hs ha hb)
  rw [k0] at HS
  have hz : (Tryd.prog.info? 37).map (·.size) = some (PC a b s).toArray.size := by rw [info_p, List.size_toArray, PC_length, hs]
  have HI := Lib.hid hz
  have p0 : (PC a b s).toArray[0]? = some (.int .i64 a) := rfl
  have p1 : (PC a b s).toArray[1]? = some (.int .i64 b) := rfl
  generalize (PC a b s).toArray = X at *
  have H0 : Hid (Bk (w.alloc (.cells X 37)) w.heap.size X 37) := Lib.hid (Bk.new w _)
  have HFA : Hid (Fr0 w (w.alloc (.cells X 37))) := Lib.hid (Fr.alloc (Fr.refl _ _) _)
  have P0 := Lib.hid p0
  have P1 := Lib.hid p1
  clear hs ha hb hz k0 p0 p1
  go_enter Tryd.func38, Tryd.ntmps38
  go_wp2_with (first | (refine wpList_load_row rfl 37 _ rfl w.heap.size rfl 37 X (0, 0) _ H0.out Tryd.underlying37 rfl HI.out ?_) | (go_at_call 28; (refine (HS.out _).mono ?_); rintro e w1 ⟨rfl, hf1⟩; have q0 := (Bk.cell (hf1.keep H0.out (fun h => h)) 0).trans P0.out; have q1 := (Bk.cell (hf1.keep H0.out (fun h => h)) 1).trans P1.out; have HF1 := Lib.hid (HFA.out.then0 hf1); clear hf1) | (go_at_call 37; (with_reducible refine (sec_calls a _).mono ?_); rintro e w2 ⟨rfl, rfl⟩) | (go_at_call 37; (with_reducible refine (sec_calls b _).mono ?_); rintro e w2 ⟨rfl, rfl⟩))
  all_goals go_ret
  all_goals exact ⟨rfl, HF1.out⟩
set_option maxHeartbeats 2000000 in
set_option maxRecDepth 100000 in
theorem right_2 (a b : Int) (s : List UInt8) (w : World) (hs : s.length = 32) (ha : (Lit.int .i64 a).wf = true) (hb : (Lit.int .i64 b).wf = true) (k0 : isH a b s = false) (k1 : secB a = false) :
    Calls Tryd.prog 38 #[.agg (PC a b s).toArray] w fun e w' => e = .returned (.bool (false)) ∧ Fr0 w w' := by
  have HS : Hid (∀ w, _) := Lib.hid (fun w => ish_calls a b s w hs ha hb)
  rw [k0] at HS
  have hz : (Tryd.prog.info? 37).map (·.size) = some (PC a b s).toArray.size := by rw [info_p, List.size_toArray, PC_length, hs]
  have HI := Lib.hid hz
  have p0 : (PC a b s).toArray[0]? = some (.int .i64 a) := rfl
  have p1 : (PC a b s).toArray[1]? = some (.int .i64 b) := rfl
  generalize (PC a b s).toArray = X at *
  have H0 : Hid (Bk (w.alloc (.cells X 37)) w.heap.size X 37) := Lib.hid (Bk.new w _)
  have HFA : Hid (Fr0 w (w.alloc (.cells X 37))) := Lib.hid (Fr.alloc (Fr.refl _ _) _)
  have P0 := Lib.hid p0
  have P1 := Lib.hid p1
  clear hs ha hb hz k0 p0 p1
  go_enter Tryd.func38, Tryd.ntmps38
  go_wp2_with (first | (refine wpList_load_row rfl 37 _ rfl w.heap.size rfl 37 X (0, 0) _ H0.out Tryd.underlying37 rfl HI.out ?_) | (go_at_call 28; (refine (HS.out _).mono ?_); rintro e w1 ⟨rfl, hf1⟩; have q0 := (Bk.cell (hf1.keep H0.out (fun h => h)) 0).trans P0.out; have q1 := (Bk.cell (hf1.keep H0.out (fun h => h)) 1).trans P1.out; have HF1 := Lib.hid (HFA.out.then0 hf1); clear hf1) | (go_at_call 37; (with_reducible refine (sec_calls a _).mono ?_); rintro e w2 ⟨rfl, rfl⟩) | (go_at_call 37; (with_reducible refine (sec_calls b _).mono ?_); rintro e w2 ⟨rfl, rfl⟩))
  all_goals go_ret
  all_goals exact ⟨rfl, HF1.out⟩
set_option maxHeartbeats 2000000 in
set_option maxRecDepth 100000 in
theorem right_3 (a b : Int) (s : List UInt8) (w : World) (hs : s.length = 32) (ha : (Lit.int .i64 a).wf = true) (hb : (Lit.int .i64 b).wf = true) (k0 : isH a b s = false) (k1 : secB a = true) (k2 : (b == -1) = true) :
    Calls Tryd.prog 38 #[.agg (PC a b s).toArray] w fun e w' => e = .returned (.bool (true)) ∧ Fr0 w w' := by
  have HS : Hid (∀ w, _) := Lib.hid (fun w => ish_calls a b s w hs ha hb)
  rw [k0] at HS
  have hz : (Tryd.prog.info? 37).map (·.size) = some (PC a b s).toArray.size := by rw [info_p, List.size_toArray, PC_length, hs]
  have HI := Lib.hid hz
  have p0 : (PC a b s).toArray[0]? = some (.int .i64 a) := rfl
  have p1 : (PC a b s).toArray[1]? = some (.int .i64 b) := rfl
  generalize (PC a b s).toArray = X at *
  have H0 : Hid (Bk (w.alloc (.cells X 37)) w.heap.size X 37) := Lib.hid (Bk.new w _)
  have HFA : Hid (Fr0 w (w.alloc (.cells X 37))) := Lib.hid (Fr.alloc (Fr.refl _ _) _)
  have P0 := Lib.hid p0
  have P1 := Lib.hid p1
  clear hs ha hb hz k0 p0 p1
  go_enter Tryd.func38, Tryd.ntmps38
  go_wp2_with (first | (refine wpList_load_row rfl 37 _ rfl w.heap.size rfl 37 X (0, 0) _ H0.out Tryd.underlying37 rfl HI.out ?_) | (go_at_call 28; (refine (HS.out _).mono ?_); rintro e w1 ⟨rfl, hf1⟩; have q0 := (Bk.cell (hf1.keep H0.out (fun h => h)) 0).trans P0.out; have q1 := (Bk.cell (hf1.keep H0.out (fun h => h)) 1).trans P1.out; have HF1 := Lib.hid (HFA.out.then0 hf1); clear hf1) | (go_at_call 37; (with_reducible refine (sec_calls a _).mono ?_); rintro e w2 ⟨rfl, rfl⟩) | (go_at_call 37; (with_reducible refine (sec_calls b _).mono ?_); rintro e w2 ⟨rfl, rfl⟩))
  all_goals go_ret
  all_goals exact ⟨rfl, HF1.out⟩
set_option maxHeartbeats 2000000 in
set_option maxRecDepth 100000 in
theorem right_4 (a b : Int) (s : List UInt8) (w : World) (hs : s.length = 32) (ha : (Lit.int .i64 a).wf = true) (hb : (Lit.int .i64 b).wf = true) (k0 : isH a b s = false) (k1 : secB a = true) (k2 : (b == -1) = false) (k3 : secB b = false) :
    Calls Tryd.prog 38 #[.agg (PC a b s).toArray] w fun e w' => e = .returned (.bool (false)) ∧ Fr0 w w' := by
  have HS : Hid (∀ w, _) := Lib.hid (fun w => ish_calls a b s w hs ha hb)
  rw [k0] at HS
  have hz : (Tryd.prog.info? 37).map (·.size) = some (PC a b s).toArray.size := by rw [info_p, List.size_toArray, PC_length, hs]
  have HI := Lib.hid hz
  have p0 : (PC a b s).toArray[0]? = some (.int .i64 a) := rfl
  have p1 : (PC a b s).toArray[1]? = some (.int .i64 b) := rfl
  generalize (PC a b s).toArray = X at *
  have H0 : Hid (Bk (w.alloc (.cells X 37)) w.heap.size X 37) := Lib.hid (Bk.new w _)
  have HFA : Hid (Fr0 w (w.alloc (.cells X 37))) := Lib.hid (Fr.alloc (Fr.refl _ _) _)
  have P0 := Lib.hid p0
  have P1 := Lib.hid p1
  clear hs ha hb hz k0 p0 p1
  go_enter Tryd.func38, Tryd.ntmps38
  go_wp2_with (first | (refine wpList_load_row rfl 37 _ rfl w.heap.size rfl 37 X (0, 0) _ H0.out Tryd.underlying37 rfl HI.out ?_) | (go_at_call 28; (refine (HS.out _).mono ?_); rintro e w1 ⟨rfl, hf1⟩; have q0 := (Bk.cell (hf1.keep H0.out (fun h => h)) 0).trans P0.out; have q1 := (Bk.cell (hf1.keep H0.out (fun h => h)) 1).trans P1.out; have HF1 := Lib.hid (HFA.out.then0 hf1); clear hf1) | (go_at_call 37; (with_reducible refine (sec_calls a _).mono ?_); rintro e w2 ⟨rfl, rfl⟩) | (go_at_call 37; (with_reducible refine (sec_calls b _).mono ?_); rintro e w2 ⟨rfl, rfl⟩))
  all_goals go_ret
  all_goals exact ⟨rfl, HF1.out⟩
set_option maxHeartbeats 2000000 in
set_option maxRecDepth 100000 in
theorem right_5 (a b : Int) (s : List UInt8) (w : World) (hs : s.length = 32) (ha : (Lit.int .i64 a).wf = true) (hb : (Lit.int .i64 b).wf = true) (k0 : isH a b s = false) (k1 : secB a = true) (k2 : (b == -1) = false) (k3 : secB b = true) :
    Calls Tryd.prog 38 #[.agg (PC a b s).toArray] w fun e w' => e = .returned (.bool (!(b == a))) ∧ Fr0 w w' := by
  have HS : Hid (∀ w, _) := Lib.hid (fun w => ish_calls a b s w hs ha hb)
  rw [k0] at HS
  have hz : (Tryd.prog.info? 37).map (·.size) = some (PC a b s).toArray.size := by rw [info_p, List.size_toArray, PC_length, hs]
  have HI := Lib.hid hz
  have p0 : (PC a b s).toArray[0]? = some (.int .i64 a) := rfl
  have p1 : (PC a b s).toArray[1]? = some (.int .i64 b) := rfl
  generalize (PC a b s).toArray = X at *
  have H0 : Hid (Bk (w.alloc (.cells X 37)) w.heap.size X 37) := Lib.hid (Bk.new w _)
  have HFA : Hid (Fr0 w (w.alloc (.cells X 37))) := Lib.hid (Fr.alloc (Fr.refl _ _) _)
  have P0 := Lib.hid p0
  have P1 := Lib.hid p1
  clear hs ha hb hz k0 p0 p1
  go_enter Tryd.func38, Tryd.ntmps38
  go_wp2_with (first | (refine wpList_load_row rfl 37 _ rfl w.heap.size rfl 37 X (0, 0) _ H0.out Tryd.underlying37 rfl HI.out ?_) | (go_at_call 28; (refine (HS.out _).mono ?_); rintro e w1 ⟨rfl, hf1⟩; have q0 := (Bk.cell (hf1.keep H0.out (fun h => h)) 0).trans P0.out; have q1 := (Bk.cell (hf1.keep H0.out (fun h => h)) 1).trans P1.out; have HF1 := Lib.hid (HFA.out.then0 hf1); clear hf1) | (go_at_call 37; (with_reducible refine (sec_calls a _).mono ?_); rintro e w2 ⟨rfl, rfl⟩) | (go_at_call 37; (with_reducible refine (sec_calls b _).mono ?_); rintro e w2 ⟨rfl, rfl⟩))
  all_goals go_ret
  all_goals exact ⟨rfl, HF1.out⟩
theorem right_calls (a b : Int) (s : List UInt8) (w : World) (hs : s.length = 32) (ha : (Lit.int .i64 a).wf = true) (hb : (Lit.int .i64 b).wf = true) :
    Calls Tryd.prog 38 #[.agg (PC a b s).toArray] w fun e w' => e = .returned (.bool (rightB a b s)) ∧ Fr0 w w' := by
  unfold rightB
  cases k0 : isH a b s with
  | true => exact right_1 a b s w hs ha hb k0
  | false =>
    cases k1 : secB a with
    | false => simpa using right_2 a b s w hs ha hb k0 k1
    | true =>
      by_cases hb1 : b = -1
      · have := right_3 a b s w hs ha hb k0 k1 (by rw [beq_iff_eq]; exact hb1)
        simpa [hb1] using this
      · have k2 : (b == -1) = false := by rw [beq_eq_false_iff_ne]; exact hb1
        cases k3 : secB b with
        | false => simpa [hb1] using right_4 a b s w hs ha hb k0 k1 k2 k3
        | true =>
          have := right_5 a b s w hs ha hb k0 k1 k2 k3
          have e : (b == a) = decide (b = a) := rfl
          rw [e] at this
          simpa [hb1] using this

end Go.Proofs.YtmkmpfnadcmcoaaDoor.PtrAsk
