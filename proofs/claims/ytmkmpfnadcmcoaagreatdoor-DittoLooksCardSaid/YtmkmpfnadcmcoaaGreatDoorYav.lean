/- The theorems that the claim uses, text behind text (part 22). -/
import Derived.Test.YtmkmpfnadcmcoaaGreatDoorYad
import Derived.Test.YtmkmpfnadcmcoaaGreatDoorYan
import Derived.Test.YtmkmpfnadcmcoaaGreatDoorYat
import Derived.Test.YtmkmpfnadcmcoaaGreatDoorYau
import Derived.Laws.BitsAllLaws
set_option maxRecDepth 100000
set_option maxHeartbeats 8000000
set_option linter.unusedVariables false
set_option linter.unusedSimpArgs false
namespace Go.Proofs.YtmkmpfnadcmcoaaGreatDoor.DiskHit
open Go Go.RowKit K EqKit ArrKit HeldKit GKit GRow DiskKit DiskAsk DiskForm DiskAct DiskNew DiskCopy DiskLay DiskFlush
def hitS (s : Sec) (kind place : Int) (y : UInt8) : Sec :=
 if kind = 1 then { s with data := s.data.set place.toNat (s.data.getD place.toNat 0 ^^^ y) } else if kind = 2 then { s with nr := true } else { s with nw := true }
def hitOK (kind place : Int) : Bool := decide ((kind = 1 ∧ 0 ≤ place ∧ place < 128) ∨ kind = 2 ∨ kind = 3)
def hitD (d : Dk) (a kind place : Int) (y : UInt8) : Dk := if (rightB d a && hitOK kind place) = true then { d with S := d.S.set a.toNat (hitS (secAt d a) kind place y) } else d
theorem hitS_ok {s : Sec} (h : s.ok) (kind place : Int) (y : UInt8) : (hitS s kind place y).ok := by
 have hl : s.data.length = 128 := h
 unfold hitS Sec.ok
 split
 ·rw [List.length_set];exact hl
 ·split <;> exact hl
theorem hitD_ok {d : Dk} (h : d.ok) (a kind place : Int) (y : UInt8) : (hitD d a kind place y).ok := by
 unfold hitD
 split
 ·refine ⟨fun x hx => ?_, h.c, h.f⟩
  rcases List.mem_or_eq_of_mem_set hx with hx | rfl
  ·exact h.s x hx
  ·refine hitS_ok ?_ kind place y
   unfold secAt
   rw [List.getD_eq_getElem?_getD]
   by_cases hi : a.toNat < d.S.length
   ·rw [List.getElem?_eq_getElem hi];exact h.s _ (List.getElem_mem hi)
   ·rw [List.getElem?_eq_none (by omega)];exact Zs_ok
 ·exact h
theorem set_cells {s t : Sec} (hs : s.ok) (ht : t.ok) (j : Nat) (u : Value) (hj : t.cells[j]? = some u) (ho : ∀ i, i ≠ j → t.cells[i]? = s.cells[i]?) : s.cells.toArray.setIfInBounds j u = t.cells.toArray := by
 apply Array.ext_getElem?
 intro i
 have hlt := (List.getElem?_eq_some_iff.1 hj).1
 rw [Sec.len ht] at hlt
 rw [Array.getElem?_setIfInBounds, List.size_toArray, Sec.len hs, List.getElem?_toArray, List.getElem?_toArray]
 by_cases e : j = i
 ·subst e;rw [if_pos rfl, if_pos hlt];exact hj.symm
 ·rw [if_neg e];exact (ho i (fun h => e h.symm)).symm
theorem hit1_cells {s : Sec} (hs : s.ok) {m : Nat} (hm : m < 128) (y : UInt8) : s.cells.toArray.setIfInBounds m (B (s.data.getD m 0 ^^^ y)) = ({ s with data := s.data.set m (s.data.getD m 0 ^^^ y) } : Sec).cells.toArray := by
 have hl : s.data.length = 128 := hs
 have ht : ({ s with data := s.data.set m (s.data.getD m 0 ^^^ y) } : Sec).ok := by show (s.data.set m _).length = 128;rw [List.length_set];exact hl
 refine set_cells hs ht m _ ?_ (fun i hi => ?_)
 ·rw [Sec.data_at ht hm, List.getElem?_map, List.getElem?_set, if_pos rfl, if_pos (by omega)];rfl
 ·by_cases h : i < 128
  ·rw [Sec.data_at ht h, Sec.data_at hs h, List.getElem?_map, List.getElem?_map, List.getElem?_set, if_neg (fun e => hi e.symm)]
  ·rcases (show i = 128 ∨ i = 129 ∨ 130 ≤ i by omega) with rfl | rfl | h
   ·rw [Sec.nr_at ht, Sec.nr_at hs]
   ·rw [Sec.nw_at ht, Sec.nw_at hs]
   ·rw [List.getElem?_eq_none (by rw [Sec.len ht];omega), List.getElem?_eq_none (by rw [Sec.len hs];omega)]
theorem xor_B (a b : UInt8) : bits .xor .u8 (a.toNat : Int) (b.toNat : Int) = ((a ^^^ b).toNat : Int) := by
 rw [u8_xor_nat a.toNat b.toNat a.toNat_lt b.toNat_lt, UInt8.toNat_xor]

theorem hv2S {w : World} {p : Nat} {d : Dk} {sa : Option Addr} {sc : Nat} {ca : Option Addr} {cc : Nat} (h : DAt w p d sa sc ca cc) : RdG Sec.cells 130 w sa d.S := h.v.rs

theorem hit_k1 (p : Nat) (a kind place : Int) (y : UInt8) (d : Dk) (sa : Option Addr) (sc : Nat) (ca : Option Addr) (cc : Nat) (w : World) (hok : d.ok) (hv : DAt w p d sa sc ca cc) (hr : rightB d a = true) (h1 : kind = 1) (h2 : 0 ≤ place) (h3 : place < 128) : Calls Tryz.prog 19 #[.pointer (some ⟨p, 0, none⟩), .int .i64 a, .int .i64 kind, .int .i64 place, .int .u8 (y.toNat : Int)] w fun e w' => e = .returned (.int .i64 0) ∧ Now w w' p { d with S := d.S.set a.toNat (hitS (secAt d a) kind place y) } := by
 have HRI := jq7 (right_calls p a d sa sc ca cc w hok hv)
 have HV := jq7 hv
 have hrt := hr
 rw [rightB, Bool.and_eq_true] at hrt
 have htt := thereB_true.1 hrt.1
 have hfm := formed_parts hrt.2
 have ha0 := htt.1
 have ha1 := htt.2
 have hq : a.toNat < d.S.length := by omega
 have hsn := hv.v.sn
 have hsm := hv.v.sm
 have hn2 := hfm.2.1
 have HSX : Jq7 (secAt d a = d.S[a.toNat]) := jq7 (by rw [secAt, List.getD_eq_getElem?_getD, List.getElem?_eq_getElem hq];rfl)
 have HOK := jq7 hok
 obtain ⟨sb, so, hso, -⟩ := hv.v.rs _ hq
 subst hso
 have hsok : d.S[a.toNat].ok := hok.s _ (List.getElem_mem hq)
 have HSO := jq7 hsok
 have HIS : Jq7 ((Tryz.prog.info? 66).map (·.size) = some d.S[a.toNat].cells.length) := jq7 (by rw [Sec.len hsok, info_s])
 have HIT : Jq7 ((Tryz.prog.info? 66).map (·.size) = some d.S[a.toNat].cells.toArray.size) := jq7 (by rw [List.size_toArray, Sec.len hsok, info_s])
 have HZT : Jq7 (ZSC.size = d.S[a.toNat].cells.toArray.size) := jq7 ((show ZSC.size = 130 from ZSC_cells).trans (by rw [List.size_toArray, Sec.len hsok]))
 have HOT : Jq7 (d.S[a.toNat].cells.toArray.all (·.oneCell') = true) := jq7 (all_oneCell_toArray (Sec.one _))
 have hzs : ∀ W, (zeroValue 66).run Tryz.prog W = .ok (.agg ZSC) W := by intro W;kernel_rfl
 have hpw : p < w.heap.size := Bk.lt hv.blk
 rw [hr] at HRI
 clear htt hrt hfm hsok
 obtain ⟨vv, hvv⟩ : ∃ vv : UInt8, d.S[a.toNat].data.getD place.toNat 0 = vv := ⟨_, rfl⟩
 have HVV := jq7 hvv
 obtain ⟨zz, hzz⟩ : ∃ zz : UInt8, vv ^^^ y = zz := ⟨_, rfl⟩
 have HZZ := jq7 hzz
 clear hvv hzz
 have HHS : Jq7 (hitS (secAt d a) kind place y = ({ d.S[a.toNat] with data := d.S[a.toNat].data.set place.toNat zz } : Sec)) := jq7 (by rw [HSX.o];unfold hitS;rw [if_pos h1, HVV.o, HZZ.o])
 have HCL : Jq7 (∀ W, DAt W p d (some ⟨sb, so, none⟩) sc ca cc → Calls Tryz.prog 36 #[.slice (some ⟨sb, so, none⟩) d.S.length sc] W fun e w' => ∃ g cap cur, e = .returned (.slice (some ⟨g, 0, none⟩) d.S.length cap) ∧ W.heap.size ≤ g ∧ OwnS w' g cap cur d.S ∧ Fr0 W w') := jq7 (fun W h => clone_calls (some ⟨sb, so, none⟩) sc d.S W h.v.rs hok.s (by omega) (by omega))
 have c1 : (kind == 1) = true := by simpa using h1
 have c2 : decide (place < 0) = false := decide_eq_false (by omega)
 have c3 : decide (128 ≤ place) = false := decide_eq_false (by omega)
 have HVJ : Jq7 (d.S[a.toNat].cells[place.toNat]? = some (.int .u8 (vv.toNat : Int))) := jq7 (by
  have hl : d.S[a.toNat].data.length = 128 := HSO.o
  rw [← HVV.o, Sec.data_at HSO.o (by omega), List.getElem?_map, List.getD_eq_getElem?_getD, List.getElem?_eq_getElem (by omega)];rfl)
 have hxr : bits .xor .u8 (vv.toNat : Int) (y.toNat : Int) = (zz.toNat : Int) := (xor_B vv y).trans (by rw [HZZ.o])
 have HCS : Jq7 (d.S[a.toNat].cells.toArray.setIfInBounds place.toNat (B zz) = ({ d.S[a.toNat] with data := d.S[a.toNat].data.set place.toNat zz } : Sec).cells.toArray) := jq7 (by have := hit1_cells HSO.o (show place.toNat < 128 by omega) y;rw [HVV.o, HZZ.o] at this;exact this)
 clear h1
 clear hv hok hr
 go_enter Tryz.func19, Tryz.ntmps19
 go_wp2_with (first | (go_at_call 32;(with_reducible refine (HRI.o).mono ?_);rintro e w2 ⟨rfl, hf2⟩;have HF2 := jq7 hf2;have HV2 := jq7 (HV.o.keep hf2);have HRG := jq7 (RdG.at (hv2S HV2.o) hq);have q0 : w2.cell? ⟨p, 0, none⟩ = some (.slice (some ⟨sb, so, none⟩) d.S.length sc) := Bk.cell HV2.o.blk 0;have HZ2 := jq7 (Bk.new w2 (.cells ZSC 66));have HX3 : Jq7 (Bk ((w2.alloc (.cells ZSC 66)).setRow w2.heap.size d.S[a.toNat].cells.toArray) w2.heap.size d.S[a.toNat].cells.toArray 66) := jq7 (ArrKit.Bk.row HZ2.o _);have HF3 : Jq7 (Fr0 w ((w2.alloc (.cells ZSC 66)).setRow w2.heap.size d.S[a.toNat].cells.toArray)) := jq7 (ArrKit.Fr.row (Fr.alloc hf2 _) _ _ (.inl hf2.size));have HV3 := jq7 (HV.o.keep HF3.o);have HPX : Jq7 (p ≠ w2.heap.size) := jq7 (by have := hf2.size;omega);have e1 : ((w2.alloc (.cells ZSC 66)).setRow w2.heap.size d.S[a.toNat].cells.toArray).cell? ⟨w2.heap.size, place.toNat, none⟩ = d.S[a.toNat].cells[place.toNat]? := (by rw [Bk.cell HX3.o, List.getElem?_toArray]);rw [HVJ.o] at e1;have z1 := Bk.free HX3.o (place.toNat);have HX4 : Jq7 (Bk (((w2.alloc (.cells ZSC 66)).setRow w2.heap.size d.S[a.toNat].cells.toArray).setCell ⟨w2.heap.size, place.toNat, none⟩ (.int .u8 (zz.toNat : Int))) w2.heap.size ({ d.S[a.toNat] with data := d.S[a.toNat].data.set place.toNat zz } : Sec).cells.toArray 66) := jq7 (by rw [← HCS.o];exact Bk.set HX3.o (place.toNat) _);have HF4 : Jq7 (Fr0 w (((w2.alloc (.cells ZSC 66)).setRow w2.heap.size d.S[a.toNat].cells.toArray).setCell ⟨w2.heap.size, place.toNat, none⟩ (.int .u8 (zz.toNat : Int)))) := jq7 (Fr.set HF3.o _ _ (.inl hf2.size));have HV4 := jq7 (HV.o.keep HF4.o);have p0 : (((w2.alloc (.cells ZSC 66)).setRow w2.heap.size d.S[a.toNat].cells.toArray).setCell ⟨w2.heap.size, place.toNat, none⟩ (.int .u8 (zz.toNat : Int))).cell? ⟨p, 0, none⟩ = some (.slice (some ⟨sb, so, none⟩) d.S.length sc) := Bk.cell HV4.o.blk 0;have hp4 : p < ((w2.alloc (.cells ZSC 66)).setRow w2.heap.size d.S[a.toNat].cells.toArray).heap.size := HF3.o.lt hpw;have hxp := HPX.o;clear hf2) | ((with_reducible show wkq (.load 66 _) _);refine wpList_load_mid rfl 66 _ rfl sb (so + a.toNat * 130) rfl d.S[a.toNat].cells _ HRG.o Tryz.underlying66 rfl HIS.o ?_) | ((with_reducible show wkq (.store 66 _ _) _);refine wpList_store_row rfl 66 _ _ rfl w2.heap.size d.S[a.toNat].cells.toArray rfl rfl 66 ZSC HZ2.o HIT.o HZT.o HOT.o ?_) | (go_at_call 36;(with_reducible refine (HCL.o _ HV4.o).mono ?_);rintro e w5 ⟨g, cap, cur, rfl, hge, hown, hfr⟩;have HV5 := jq7 (HV4.o.keep hfr);have HX5 := kq0 hfr HX4;have HF5 := fq0 HF4 hfr;have p5 : w5.cell? ⟨p, 0, none⟩ = some (.slice (some ⟨sb, so, none⟩) d.S.length sc) := Bk.cell HV5.o.blk 0;have z5 := Bk.free HV5.o.blk 0;have HO5 := jq7 hown;have hgx : w2.heap.size ≠ g := (by have h1 := Bk.lt HX4.o;omega);have hgp : p ≠ g := (by have h1 := HF4.o.lt hpw;omega);have HGW : Jq7 (w.heap.size ≤ g) := jq7 (Nat.le_trans HF4.o.size hge);clear hge hown hfr))
 have hq2 : a.toNat * 130 + 130 ≤ cur.size := by have h1 := HO5.o.size;have h2 := HO5.o.room;omega
 have HSN : Jq7 (({ d.S[a.toNat] with data := d.S[a.toNat].data.set place.toNat zz } : Sec).ok) := jq7 ((show (d.S[a.toNat].data.set place.toNat _).length = 128 by rw [List.length_set];exact HSO.o))
 have HP6 : Jq7 (Bk (w5.setCell ⟨p, 0, none⟩ (.slice (some ⟨g, 0, none⟩) d.S.length cap)) p (DC (.slice (some ⟨g, 0, none⟩) d.S.length cap) (.slice ca d.C.length cc) d.fuse d.down) 25) := jq7 (Bk.set HV5.o.blk 0 _)
 have HO6 : Jq7 (OwnS (w5.setCell ⟨p, 0, none⟩ (.slice (some ⟨g, 0, none⟩) d.S.length cap)) g cap cur d.S) := jq7 (OwnG.keep HO5.o (Fr.set1 _ _ _ _) (by omega))
 have HST : Jq7 (Stand [(p, .cells (DC (.slice (some ⟨g, 0, none⟩) d.S.length cap) (.slice ca d.C.length cc) d.fuse d.down) 25 (0, 0)), (w2.heap.size, .cells ({ d.S[a.toNat] with data := d.S[a.toNat].data.set place.toNat zz } : Sec).cells.toArray 66 (0, 0))] (w5.setCell ⟨p, 0, none⟩ (.slice (some ⟨g, 0, none⟩) d.S.length cap))) := jq7 (Stand.cons HP6.o (Stand.cons (Bk.setOther HX5.o _ _ (Ne.symm HPX.o)) (Stand.nil _)))
 have HP7 : Jq7 (Bk (w5.setCell ⟨p, 0, none⟩ (.slice (some ⟨g, 0, none⟩) d.S.length cap)).drew p (DC (.slice (some ⟨g, 0, none⟩) d.S.length cap) (.slice ca d.C.length cc) d.fuse d.down) 25) := jq7 HP6.o
 have HG7 : Jq7 (Bk (w5.setCell ⟨p, 0, none⟩ (.slice (some ⟨g, 0, none⟩) d.S.length cap)).drew g cur 66) := jq7 HO6.o.blk
 have HF7 : Jq7 (Fr (fun i => i = p) w (w5.setCell ⟨p, 0, none⟩ (.slice (some ⟨g, 0, none⟩) d.S.length cap)).drew) := jq7 (Fr.drew (Fr.set (HF5.o.weaken (fun _ _ h => h.elim)) _ _ (.inr rfl)))
 have HV7 : Jq7 (DV (w5.setCell ⟨p, 0, none⟩ (.slice (some ⟨g, 0, none⟩) d.S.length cap)).drew d (some ⟨sb, so, none⟩) sc ca cc) := jq7 (DV.keep (DV.past HV5.o.v HOK.o (Fr.set1 w5 p 0 (.slice (some ⟨g, 0, none⟩) d.S.length cap)) HV5.o.blk (dval_no _ _ _ _ _)) (Fr.drew (Fr.refl _ _)))
 have HIN : Jq7 ((Tryz.prog.info? 66).map (·.size) = some ({ d.S[a.toNat] with data := d.S[a.toNat].data.set place.toNat zz } : Sec).cells.toArray.size) := jq7 (by rw [List.size_toArray, Sec.len HSN.o, info_s])
 have HON : Jq7 (({ d.S[a.toNat] with data := d.S[a.toNat].data.set place.toNat zz } : Sec).cells.toArray.all (·.oneCell') = true) := jq7 (all_oneCell_toArray (Sec.one _))
 have HTH : Jq7 ((w5.setCell ⟨p, 0, none⟩ (.slice (some ⟨g, 0, none⟩) d.S.length cap)).drew.there g (a.toNat * 130) ({ d.S[a.toNat] with data := d.S[a.toNat].data.set place.toNat zz } : Sec).cells.toArray.size) := jq7 (there_bk HG7.o _ _ (by rw [List.size_toArray, Sec.len HSN.o];omega))
 refine wp_region_noPanic ?_
 refine wp_region_held_drew (S := (Stand [(p, .cells (DC (.slice (some ⟨g, 0, none⟩) d.S.length cap) (.slice ca d.C.length cc) d.fuse d.down) 25 (0, 0)), (w2.heap.size, .cells ({ d.S[a.toNat] with data := d.S[a.toNat].data.set place.toNat zz } : Sec).cells.toArray 66 (0, 0))])) (by kernel_rfl) (Stand.drew HST.o) (fun hL0 => ?_)
 generalize (w5.setCell ⟨p, 0, none⟩ (.slice (some ⟨g, 0, none⟩) d.S.length cap)).drew = wd at *
 refine tk0 (i := 0) (v := .pointer (some ⟨p, 0, none⟩)) rfl hL0 ?_
 refine tk0 (i := 1) (v := .pointer (some ⟨p, 0, none⟩)) rfl hL0 ?_
 simp only [Act.put,zA,zB,zC,zD,zE,zF]
 refine tk0 (i := 2) (v := .pointer (some ⟨p, 0, none⟩)) rfl hL0 ?_
 refine tk (i := 3) (v := .slice (some ⟨g, 0, none⟩) d.S.length cap) rfl (Or.inl ⟨by kernel_rfl, fun w hSw => by have hcl := (fun W h => Bk.cell (Stand.a0 h) 0) w hSw;go_simp⟩) hL0 ?_
 simp only [Act.put,zA,zB,zC,zD,zE,zF]
 refine tk0 (i := 4) (v := .int .i64 a) rfl hL0 ?_
 refine tk (i := 5) (v := .agg ({ d.S[a.toNat] with data := d.S[a.toNat].data.set place.toNat zz } : Sec).cells.toArray) rfl (yields_row (by kernel_rfl) 66 _ rfl (w2.heap.size) rfl 66 ({ d.S[a.toNat] with data := d.S[a.toNat].data.set place.toNat zz } : Sec).cells.toArray (0, 0) _ (fun W h => Stand.a0 (Stand.tl h)) Tryz.underlying66 rfl HIN.o) hL0 ?_
 simp only [Act.put,zA,zB,zC,zD,zE,zF]
 refine tk (i := 6) (v := .pointer (some ⟨g, a.toNat * 130, none⟩)) rfl (Or.inl ⟨by kernel_rfl, fun w hSw => by go_simp⟩) hL0 ?_
 simp only [Act.put,zA,zB,zC,zD,zE,zF]
 change wpAnyH _ _ _ _ _ 1 #[true, true, true, true, true, true, true, false] _ _
 refine rd1 7 rfl fun K hK => ?_
 simp only [zA, zB, zC]
 refine wp_store_mid 66 _ _ rfl g (a.toNat * 130) ({ d.S[a.toNat] with data := d.S[a.toNat].data.set place.toNat zz } : Sec).cells.toArray rfl rfl HTH.o HIN.o HON.o ?_
 refine hK.out _ _ (Stand.fr hL0 (Fr.sets1 _ _ _ _) (fun r hr => by simp only [List.mem_cons, List.not_mem_nil, or_false] at hr;rcases hr with rfl | rfl;exact hgp;exact hgx)) (fun hL1 => ?_)
 clear hK K hL0
 change wpAnyH _ _ _ _ _ 0 #[true, true, true, true, true, true, true, true] _ _
 refine wpAnyH_done (by kernel_rfl) ?_ _
 refine NoPanic.normal ?_
 have HEND := jq7 hL1
 clear hL1
 go_wp2_with fail
 go_ret
 have hfs := Fr.sets1 wd g (a.toNat * 130) ({ d.S[a.toNat] with data := d.S[a.toNat].data.set place.toNat zz } : Sec).cells.toArray.toList
 have hcb : ∀ a', ca = some a' → d.C ≠ [] → ¬ a'.block = g := fun a' e hl => by
  subst e
  obtain ⟨b', o', e, hb, -⟩ := RdG.form HV.o.v.rc (List.length_pos_iff.2 hl) Wri.ps
  obtain rfl := Option.some.inj e
  have := HGW.o
  show ¬ b' = g
  omega
 have hrc := RdG.later HV7.o.rc hfs hcb
 have hset := OwnG.set HO5.o (secs_len HOK.o.s) hq ({ d.S[a.toNat] with data := d.S[a.toNat].data.set place.toNat zz } : Sec) (Sec.len HSN.o) (wd.setCells g (a.toNat * 130) ({ d.S[a.toNat] with data := d.S[a.toNat].data.set place.toNat zz } : Sec).cells.toArray.toList) (lyc cur (a.toNat * 130) ({ d.S[a.toNat] with data := d.S[a.toNat].data.set place.toNat zz } : Sec).cells) (sets_bk _ _ _ _ HG7.o) (lay_size _ _ _) (fun j u hj => by
  have hj' := (List.getElem?_eq_some_iff.1 hj).1
  rw [Sec.len HSN.o] at hj'
  rw [lay_get, if_pos (by rw [Sec.len HSN.o];omega), show a.toNat * 130 + j - a.toNat * 130 = j by omega]
  exact hj) (fun m hm => by rw [lay_get, if_neg (by rw [Sec.len HSN.o];omega)])
 rw [HHS.o]
 refine ⟨rfl, ⟨⟨some ⟨g, 0, none⟩, cap, ca, cc, ?_, ?_⟩, Fr.newG HF7.o hfs HGW.o⟩⟩
 ·have := hfs.keep HP7.o hgp
  simp only [dval, List.length_set]
  exact this
 ·exact ⟨hset.rd, hrc, hset.room, hset.max, HV7.o.cn, HV7.o.cm⟩

end Go.Proofs.YtmkmpfnadcmcoaaGreatDoor.DiskHit
namespace Go.Proofs.YtmkmpfnadcmcoaaGreatDoor.RmAliveP
open Go Go.RowKit K EqKit ArrKit HeldKit GKit GRow DiskKit RmKit MapKit RmRight RmRRight RmTab RmPut RmAsk RmSame DiskRRead RmRead RmReads DiskAct RmSpare RmKeep RmFirst RmFormat DiskNew DiskHit DiskLay
theorem flushD_ok {d : Dk} (h : d.ok) : (flushD d).ok := by
 unfold flushD
 split
 ·exact h
 ·split
  ·exact actD_ok h
  ·exact layD_ok (actD_ok h) _
def B7 : List UInt8 := 7 :: List.replicate 127 0
theorem B7_len : B7.length = 128 := by simp [B7]
def MA : Rm := ⟨0, []⟩
def MB : Rm := ⟨1, [(2, 8)]⟩
def E0 : Dk := newD 28
def E1 (T : List UInt8) : Dk := writeD E0 0 T
def E2 (T : List UInt8) : Dk := writeD (E1 T) 4 T
def C1 (T : List UInt8) : Dk := flushD (E2 T)
def C2 (T : List UInt8) : Dk := hitD (C1 T) 2 3 0 0
section
variable (T U : List UInt8)
end
end Go.Proofs.YtmkmpfnadcmcoaaGreatDoor.RmAliveP
namespace Go.Proofs.YtmkmpfnadcmcoaaGreatDoor.RmAlive
open Go Go.RowKit K EqKit ArrKit HeldKit GKit GRow DiskKit RmKit MapKit RmRight RmRRight RmTab RmPut RmAsk RmSame DiskRRead RmRead RmReads DiskAct RmSpare RmKeep RmFirst RmFormat DiskNew DiskHit DiskLay RmAliveP
theorem built_b7 : Tryz.prog.built 36 [(0, .int .u8 7)] = some (B7.map B).toArray := by kernel_rfl
end Go.Proofs.YtmkmpfnadcmcoaaGreatDoor.RmAlive
namespace Go.Proofs.YtmkmpfnadcmcoaaGreatDoor.RmGreat
open Go Go.RowKit K EqKit ArrKit HeldKit GKit GRow DiskKit RmKit MapKit RmRight RmRRight RmTab RmPut RmRPut RmAsk RmSame DiskSame DiskRRead RmRead RmReads RmAlive
theorem great_calls (d : Dk) (sa : Option Addr) (sc : Nat) (ca : Option Addr) (cc : Nat) (w : World) (hv : DV w d sa sc ca cc) : Calls Tryz.prog 6 #[.agg (dval d sa sc ca cc)] w fun e w' => e = .returned (.bool (decide (300 < d.C.length))) ∧ Fr0 w w' := by
 have HB : Jq7 (Bk (w.alloc (.cells (dval d sa sc ca cc) 25)) w.heap.size (dval d sa sc ca cc) 25) := jq7 (Bk.new w _)
 have HF : Jq7 (Fr0 w (w.alloc (.cells (dval d sa sc ca cc) 25))) := jq7 (Fr.alloc (Fr.refl _ _) _)
 have hc1 : (w.alloc (.cells (dval d sa sc ca cc) 25)).cell? ⟨w.heap.size, 1, none⟩ = some (.slice ca d.C.length cc) := Bk.cell HB.o 1
 have hx : (300 < (d.C.length : Int)) ↔ (300 < d.C.length) := by omega
 clear hv
 by_cases h : 300 < d.C.length
 ·rw [decide_eq_true h]
  have h2 := hx.mpr h
  go_enter Tryz.func6, Tryz.ntmps6
  go_wp2
  go_ret
  exact ⟨rfl, HF.o⟩
 ·rw [decide_eq_false h]
  have h2 : ¬ (300 < (d.C.length : Int)) := fun x => h (hx.mp x)
  go_enter Tryz.func6, Tryz.ntmps6
  go_wp2
  go_ret
  exact ⟨rfl, HF.o⟩

end Go.Proofs.YtmkmpfnadcmcoaaGreatDoor.RmGreat
namespace Go.Proofs.YtmkmpfnadcmcoaaGreatDoor.DiskSameB
open Go Go.RowKit K EqKit ArrKit HeldKit GKit GRow DiskKit DiskAsk DiskForm DiskAct DiskNew DiskSame
theorem same_calls (d : Dk) (sa : Option Addr) (sc : Nat) (ca : Option Addr) (cc : Nat) (sb : Option Addr) (sd : Nat) (cb : Option Addr) (cd : Nat) (w : World) (hok : d.ok) (hv : DV w d sa sc ca cc) (hv' : DV w d sb sd cb cd) : Calls Tryz.prog 11 #[.agg (dval d sa sc ca cc), .agg (dval d sb sd cb cd)] w fun e w' => e = .returned (.bool true) ∧ Fr0 w w' := by
 have hm := hv.sm
 have hsn := hv.sn
 have hcm := hv.cm
 have hcn := hv.cn
 have hsn' := hv'.sn
 have hsm' := hv'.sm
 have hcn' := hv'.cn
 have hcm' := hv'.cm
 have hs1 : (w.alloc (.cells (dval d sa sc ca cc) 25)).heap.size = w.heap.size + 1 := by simp
 have HA : Jq7 (Bk ((w.alloc (.cells (dval d sa sc ca cc) 25)).alloc (.cells (dval d sb sd cb cd) 25)) w.heap.size (dval d sa sc ca cc) 25) := jq7 (Bk.alloc (Bk.new w _) _)
 have HB : Jq7 (Bk ((w.alloc (.cells (dval d sa sc ca cc) 25)).alloc (.cells (dval d sb sd cb cd) 25)) (w.heap.size + 1) (dval d sb sd cb cd) 25) := jq7 (by have := Bk.new (w.alloc (.cells (dval d sa sc ca cc) 25)) (.cells (dval d sb sd cb cd) 25);rwa [hs1] at this)
 have HF : Jq7 (Fr0 w ((w.alloc (.cells (dval d sa sc ca cc) 25)).alloc (.cells (dval d sb sd cb cd) 25))) := jq7 (Fr.alloc (Fr.alloc (Fr.refl _ _) _) _)
 have HRS := jq7 hv.rs
 have HRC := jq7 hv.rc
 have HRS' := jq7 hv'.rs
 have HRC' := jq7 hv'.rc
 have HOS := jq7 hok.s
 have HOC := jq7 hok.c
 have hff : (d.fuse == d.fuse) = true := by simp
 have hdd : (d.down == d.down) = true := by simp
 clear hv hok hs1 hv'
 obtain ⟨SS, CC, ff, dd⟩ := d
 dsimp only [dval] at *
 go_enter Tryz.func11, Tryz.ntmps11
 go_wp2
 generalize hw0 : World.alloc _ _ = w0 at *
 clear hw0
 go_loopw [5] (fun i wr => ∃ k : Nat, k ≤ SS.length ∧ i = .int .i64 k ∧ Held w [(w.heap.size, .cells (DC (.slice sa SS.length sc) (.slice ca CC.length cc) ff dd) 25 (0, 0)), (w.heap.size + 1, .cells (DC (.slice sb SS.length sd) (.slice cb CC.length cd) ff dd) 25 (0, 0))] wr) (fun i _ => SS.length - (intOf i).toNat)
 case atStart => exact ⟨0, Nat.zero_le _, rfl, Held.cons HA.o (Held.cons HB.o (Held.nil HF.o))⟩
 case round =>
  obtain ⟨k, hk, rfl, hH⟩ := hrel
  have HH := jq7 hH
  have q0 : wr.cell? ⟨w.heap.size, 0, none⟩ = some (.slice sa SS.length sc) := Bk.cell (Held.a0 HH.o) 0
  have q1 : wr.cell? ⟨w.heap.size, 1, none⟩ = some (.slice ca CC.length cc) := Bk.cell (Held.a0 HH.o) 1
  clear hH
  by_cases hlt : k < SS.length
  ·obtain ⟨b, o, rfl, hrg⟩ := HRS.o k hlt
   obtain ⟨b', o', rfl, hrg'⟩ := HRS'.o k hlt
   have HX := jq7 (HOS.o _ (List.getElem_mem hlt))
   have HIX : Jq7 ((Tryz.prog.info? 66).map (·.size) = some SS[k].cells.length) := jq7 (by rw [Sec.len HX.o, info_s])
   have HG : Jq7 (∀ W, Fr0 w W → W.rangeAt b (o + k * 130) SS[k].cells) := jq7 (fun W h => (RdG.keep HRS.o h).at hlt)
   have HG' : Jq7 (∀ W, Fr0 w W → W.rangeAt b' (o' + k * 130) SS[k].cells) := jq7 (fun W h => (RdG.keep HRS'.o h).at hlt)
   have HEQ : Jq7 (∀ W, (Op.equalIn 10000 66 (.agg SS[k].cells.toArray) (.agg SS[k].cells.toArray)).run Tryz.prog W = .ok true W) := jq7 (eq_sec HX.o)
   clear hrg hrg'
   go_wp2
   refine wp_region_noPanic ?_
   refine wp_region_held_drew (S := (Held w [(w.heap.size, .cells (DC (.slice (some ⟨b, o, none⟩) SS.length sc) (.slice ca CC.length cc) ff dd) 25 (0, 0)), (w.heap.size + 1, .cells (DC (.slice (some ⟨b', o', none⟩) SS.length sd) (.slice cb CC.length cd) ff dd) 25 (0, 0))])) (by kernel_rfl) (Held.drew HH.o) (fun hL0 => ?_)
   refine tk0 (i := 0) (v := .pointer (some ⟨w.heap.size, 0, none⟩)) rfl hL0 ?_
   refine tk (i := 1) (v := .slice (some ⟨b, o, none⟩) SS.length sc) rfl (Or.inl ⟨by kernel_rfl, fun w hSw => by have hcl := (fun W h => Bk.cell (Held.a0 h) 0) w hSw;go_simp⟩) hL0 ?_
   simp only [Act.put,zA,zB,zC,zD,zE,zF]
   refine tk0 (i := 2) (v := .int .i64 (k : Int)) rfl hL0 ?_
   refine tk (i := 3) (v := .pointer (some ⟨b, o + k * 130, none⟩)) rfl (Or.inl ⟨by kernel_rfl, fun w hSw => by go_simp⟩) hL0 ?_
   simp only [Act.put,zA,zB,zC,zD,zE,zF]
   refine tk (i := 4) (v := .agg SS[k].cells.toArray) rfl (yieldsIf_load_mid (by kernel_rfl) 66 _ rfl b (o + k * 130) rfl SS[k].cells _ (fun W h => HG.o W h.2) Tryz.underlying66 rfl HIX.o) hL0 ?_
   refine tk0 (i := 5) (v := .pointer (some ⟨w.heap.size + 1, 0, none⟩)) rfl hL0 ?_
   simp only [Act.put,zA,zB,zC,zD,zE,zF]
   refine tk (i := 6) (v := .slice (some ⟨b', o', none⟩) SS.length sd) rfl (Or.inl ⟨by kernel_rfl, fun w hSw => by have hcl := (fun W h => Bk.cell (Held.a0 (Held.tl h)) 0) w hSw;go_simp⟩) hL0 ?_
   refine tk0 (i := 7) (v := .int .i64 (k : Int)) rfl hL0 ?_
   simp only [Act.put,zA,zB,zC,zD,zE,zF]
   refine tk (i := 8) (v := .pointer (some ⟨b', o' + k * 130, none⟩)) rfl (Or.inl ⟨by kernel_rfl, fun w hSw => by go_simp⟩) hL0 ?_
   refine tk (i := 9) (v := .agg SS[k].cells.toArray) rfl (yieldsIf_load_mid (by kernel_rfl) 66 _ rfl b' (o' + k * 130) rfl SS[k].cells _ (fun W h => HG'.o W h.2) Tryz.underlying66 rfl HIX.o) hL0 ?_
   simp only [Act.put,zA,zB,zC,zD,zE,zF]
   refine tk (i := 10) (v := .bool false) rfl (Or.inl ⟨by kernel_rfl, fun w hSw => run_neq_op rfl rfl rfl guard_s HEQ.o w⟩) hL0 ?_
   simp only [Act.put,zA,zB,zC,zD,zE,zF]
   change wpAnyH _ _ _ _ _ 0 #[true, true, true, true, true, true, true, true, true, true, true] _ _
   refine wpAnyH_done (by kernel_rfl) ?_ _
   refine NoPanic.normal ?_
   have HFIN := jq7 (Held.f hL0)
   have HEND := jq7 hL0
   clear hL0
   go_wp2
   go_roundw
   case rel => exact ⟨k + 1, by omega, by go_num, HEND.o⟩
   case measure => simp [intOf];omega
  ·obtain rfl : k = SS.length := by omega
   clear hlt
   go_wp2
   clear q0 q1
   obtain ⟨wz, rfl⟩ : ∃ wz : World, wz = wr := ⟨_, rfl⟩
   go_loopw [6] (fun i wr => ∃ k : Nat, k ≤ CC.length ∧ i = .int .i64 k ∧ Held w [(w.heap.size, .cells (DC (.slice sa SS.length sc) (.slice ca CC.length cc) ff dd) 25 (0, 0)), (w.heap.size + 1, .cells (DC (.slice sb SS.length sd) (.slice cb CC.length cd) ff dd) 25 (0, 0))] wr) (fun i _ => CC.length - (intOf i).toNat)
   case atStart => exact ⟨0, Nat.zero_le _, rfl, HH.o⟩
   case round =>
    clear HH
    obtain ⟨k, hk, rfl, hH⟩ := hrel
    have HH := jq7 hH
    have q1 : wr.cell? ⟨w.heap.size, 1, none⟩ = some (.slice ca CC.length cc) := Bk.cell (Held.a0 HH.o) 1
    clear hH
    by_cases hlt : k < CC.length
    ·obtain ⟨b, o, rfl, hrg⟩ := HRC.o k hlt
     obtain ⟨b', o', rfl, hrg'⟩ := HRC'.o k hlt
     have HX := jq7 (HOC.o _ (List.getElem_mem hlt))
     have HIX : Jq7 ((Tryz.prog.info? 68).map (·.size) = some CC[k].cells.length) := jq7 (by rw [Wri.leng HX.o, info_w])
     have HG : Jq7 (∀ W, Fr0 w W → W.rangeAt b (o + k * 129) CC[k].cells) := jq7 (fun W h => (RdG.keep HRC.o h).at hlt)
     have HG' : Jq7 (∀ W, Fr0 w W → W.rangeAt b' (o' + k * 129) CC[k].cells) := jq7 (fun W h => (RdG.keep HRC'.o h).at hlt)
     have HEQ : Jq7 (∀ W, (Op.equalIn 10000 68 (.agg CC[k].cells.toArray) (.agg CC[k].cells.toArray)).run Tryz.prog W = .ok true W) := jq7 (eq_wri HX.o)
     clear hrg hrg'
     go_wp2
     refine wp_region_noPanic ?_
     refine wp_region_held_drew (S := (Held w [(w.heap.size, .cells (DC (.slice sa SS.length sc) (.slice (some ⟨b, o, none⟩) CC.length cc) ff dd) 25 (0, 0)), (w.heap.size + 1, .cells (DC (.slice sb SS.length sd) (.slice (some ⟨b', o', none⟩) CC.length cd) ff dd) 25 (0, 0))])) (by kernel_rfl) (Held.drew HH.o) (fun hL0 => ?_)
     refine tk0 (i := 0) (v := .pointer (some ⟨w.heap.size, 1, none⟩)) rfl hL0 ?_
     refine tk (i := 1) (v := .slice (some ⟨b, o, none⟩) CC.length cc) rfl (Or.inl ⟨by kernel_rfl, fun w hSw => by have hcl := (fun W h => Bk.cell (Held.a0 h) 1) w hSw;go_simp⟩) hL0 ?_
     simp only [Act.put,zA,zB,zC,zD,zE,zF]
     refine tk0 (i := 2) (v := .int .i64 (k : Int)) rfl hL0 ?_
     refine tk (i := 3) (v := .pointer (some ⟨b, o + k * 129, none⟩)) rfl (Or.inl ⟨by kernel_rfl, fun w hSw => by go_simp⟩) hL0 ?_
     simp only [Act.put,zA,zB,zC,zD,zE,zF]
     refine tk (i := 4) (v := .agg CC[k].cells.toArray) rfl (yieldsIf_load_mid (by kernel_rfl) 68 _ rfl b (o + k * 129) rfl CC[k].cells _ (fun W h => HG.o W h.2) Tryz.underlying68 rfl HIX.o) hL0 ?_
     refine tk0 (i := 5) (v := .pointer (some ⟨w.heap.size + 1, 1, none⟩)) rfl hL0 ?_
     simp only [Act.put,zA,zB,zC,zD,zE,zF]
     refine tk (i := 6) (v := .slice (some ⟨b', o', none⟩) CC.length cd) rfl (Or.inl ⟨by kernel_rfl, fun w hSw => by have hcl := (fun W h => Bk.cell (Held.a0 (Held.tl h)) 1) w hSw;go_simp⟩) hL0 ?_
     refine tk0 (i := 7) (v := .int .i64 (k : Int)) rfl hL0 ?_
     simp only [Act.put,zA,zB,zC,zD,zE,zF]
     refine tk (i := 8) (v := .pointer (some ⟨b', o' + k * 129, none⟩)) rfl (Or.inl ⟨by kernel_rfl, fun w hSw => by go_simp⟩) hL0 ?_
     refine tk (i := 9) (v := .agg CC[k].cells.toArray) rfl (yieldsIf_load_mid (by kernel_rfl) 68 _ rfl b' (o' + k * 129) rfl CC[k].cells _ (fun W h => HG'.o W h.2) Tryz.underlying68 rfl HIX.o) hL0 ?_
     simp only [Act.put,zA,zB,zC,zD,zE,zF]
     refine tk (i := 10) (v := .bool false) rfl (Or.inl ⟨by kernel_rfl, fun w hSw => run_neq_op rfl rfl rfl guard_w HEQ.o w⟩) hL0 ?_
     simp only [Act.put,zA,zB,zC,zD,zE,zF]
     change wpAnyH _ _ _ _ _ 0 #[true, true, true, true, true, true, true, true, true, true, true] _ _
     refine wpAnyH_done (by kernel_rfl) ?_ _
     refine NoPanic.normal ?_
     have HFIN := jq7 (Held.f hL0)
     have HEND := jq7 hL0
     clear hL0
     go_wp2
     go_roundw
     case rel => exact ⟨k + 1, by omega, by go_num, HEND.o⟩
     case measure => simp [intOf];omega
    ·obtain rfl : k = CC.length := by omega
     clear hlt
     go_wp2
     go_ret
     exact ⟨rfl, HH.o.2⟩

end Go.Proofs.YtmkmpfnadcmcoaaGreatDoor.DiskSameB
namespace Go.Proofs.YtmkmpfnadcmcoaaGreatDoor.RmWrX
open Go Go.RowKit K EqKit ArrKit HeldKit GKit GRow DiskKit RmKit MapKit RmRight RmRRight RmTab RmPut RmAsk RmSame DiskRRead RmRead RmReads DiskAct DiskLay RmSpare RmKeep RmAliveP
theorem flushD_S (d : Dk) : (flushD d).S.length = d.S.length := by
 unfold flushD
 split
 ·rfl
 ·split
  ·rw [(actD_S2 d).1]
  ·show (laid _ _ _ _).length = _
   rw [laid_len, (actD_S2 d).1]
theorem flushD_C (d : Dk) : (flushD d).C.length ≤ d.C.length := by
 unfold flushD
 split
 ·omega
 ·split
  ·rw [(actD_S2 d).2];omega
  ·show ([] : List Wri).length ≤ _
   simp
theorem wf_small {x : Int} (h0 : 0 ≤ x) (h1 : x ≤ 4611686018427387905) : (Lit.int .i64 x).wf = true := by
 simp [Lit.wf, IntKind.min, IntKind.max, IntKind.signed, IntKind.bits];omega
theorem spareR_ok {m : Rm} {b : List UInt8} (hb : b.length = 128) : ∀ (k : Nat) (q : Int) (d : Dk), d.ok → 0 ≤ q → q + k ≤ 5000 → (spareR m b k q d).2.2.ok ∧ (spareR m b k q d).2.2.S.length = d.S.length ∧ (spareR m b k q d).2.2.C.length ≤ d.C.length + k ∧ 0 ≤ (spareR m b k q d).1 ∧ (spareR m b k q d).1 ≤ q + k ∧ ((spareR m b k q d).2.1 = 0 → q ≤ (spareR m b k q d).1 ∧ (spareR m b k q d).1 < q + k ∧ m.ps.any (fun p => p.2 == (spareR m b k q d).1) = false)
 | 0, q, d, h, h0, h1 => ⟨h, rfl, by show d.C.length ≤ _;omega, by show (0 : Int) ≤ 0;omega, by show (0 : Int) ≤ _;omega, fun e => by cases e⟩
 | k + 1, q, d, h, h0, h1 => by
  rw [spareR]
  split
  ·obtain ⟨a1, a2, a3, a4, a5, a6⟩ := spareR_ok hb k (q + 1) d h (by omega) (by omega)
   exact ⟨a1, a2, by omega, a4, by omega, fun e => by obtain ⟨b1, b2, b3⟩ := a6 e;exact ⟨by omega, by omega, b3⟩⟩
  ·rename_i hu
   split
   ·obtain ⟨a1, a2, a3, a4, a5, a6⟩ := spareR_ok hb k (q + 1) (writeD d q b) (writeD_ok h hb (wf_small h0 (by omega))) (by omega) (by omega)
    have h3 := writeD_C d q b
    rw [writeD_S] at a2
    exact ⟨a1, a2, by omega, a4, by omega, fun e => by obtain ⟨b1, b2, b3⟩ := a6 e;exact ⟨by omega, by omega, b3⟩⟩
   ·have h3 := writeD_C d q b
    exact ⟨writeD_ok h hb (wf_small h0 (by omega)), by rw [writeD_S], by show (writeD d q b).C.length ≤ _;omega, h0, by show q ≤ _;omega, fun _ => ⟨by show q ≤ q;omega, by show q < _;omega, Bool.eq_false_iff.2 hu⟩⟩
theorem keepX_ok {d : Dk} {m : Rm} (h : d.ok) : (keepX d m).2.ok ∧ (keepX d m).2.S.length = d.S.length ∧ (keepX d m).2.C.length ≤ d.C.length + 2 := by
 unfold keepX
 split
 ·rename_i ht
  have hp := tab_parts ht
  have hl := half_lo hp.1
  have hL := tabL_len m hp.2.2.2.1
  have o1 := writeD_ok h hL (wf_small (x := m.gen % 2) (by omega) (by omega))
  have o2 := writeD_ok o1 hL (wf_small (x := half (d.S.length : Int) + m.gen % 2) (by omega) (by omega))
  have c1 := writeD_C d (m.gen % 2) (tabL m)
  have c2 := writeD_C (writeD d (m.gen % 2) (tabL m)) (half (d.S.length : Int) + m.gen % 2) (tabL m)
  split
  ·exact ⟨o1, by rw [writeD_S], by show (writeD _ _ _).C.length ≤ _;omega⟩
  ·split
   ·exact ⟨o2, by rw [writeD_S, writeD_S], by show (writeD _ _ _).C.length ≤ _;omega⟩
   ·split
    ·exact ⟨o2, by rw [writeD_S, writeD_S], by show (writeD _ _ _).C.length ≤ _;omega⟩
    ·have c3 := flushD_C (writeD (writeD d (m.gen % 2) (tabL m)) (half (d.S.length : Int) + m.gen % 2) (tabL m))
     exact ⟨flushD_ok o2, by rw [flushD_S, writeD_S, writeD_S], by show (flushD _).C.length ≤ _;omega⟩
 ·exact ⟨h, rfl, by show d.C.length ≤ _;omega⟩
def nextM (m : Rm) (n to : Int) : Rm := if plc m n < 0 then ⟨m.gen + 1, m.ps ++ [(n, to)]⟩ else ⟨m.gen + 1, m.ps.set (plc m n).toNat (n, to)⟩
theorem plc_cases (m : Rm) (n : Int) : (plc m n = -1 ∧ ∀ x ∈ m.ps, (x.1 == n) = false) ∨ ∃ k : Nat, ∃ hk : k < m.ps.length, plc m n = k ∧ m.ps[k].1 = n ∧ ∀ q (hq : q < k), ((m.ps[q]'(by omega)).1 == n) = false := by
 rcases idxI_cases (fun p => p.1 == n) m.ps with h | ⟨k, hk, h1, h2, h3⟩
 ·exact .inl h
 ·exact .inr ⟨k, hk, h1, by simpa using h2, h3⟩
theorem nextM_no {m : Rm} {n : Int} (to : Int) (h : plc m n < 0) : nextM m n to = ⟨m.gen + 1, m.ps ++ [(n, to)]⟩ := by unfold nextM;rw [if_pos h]
theorem nextM_at {m : Rm} {n : Int} {k : Nat} (to : Int) (h : plc m n = k) : nextM m n to = ⟨m.gen + 1, m.ps.set k (n, to)⟩ := by unfold nextM;rw [if_neg (by omega), h];rfl
theorem nextM_ok {m : Rm} {n to : Int} (h : m.ok) (hn : (Lit.int .i64 n).wf = true) (ht : (Lit.int .i64 to).wf = true) (hg : (Lit.int .i64 (m.gen + 1)).wf = true) : (nextM m n to).ok := by
 unfold nextM
 split
 ·refine ⟨hg, fun x hx => ?_⟩
  simp only [List.mem_append, List.mem_cons, List.not_mem_nil, or_false] at hx
  rcases hx with hx | rfl
  ·exact h.p x hx
  ·exact ⟨hn, ht⟩
 ·refine ⟨hg, fun x hx => ?_⟩
  rcases List.mem_or_eq_of_mem_set hx with hx | rfl
  ·exact h.p x hx
  ·exact ⟨hn, ht⟩
theorem nextM_len (m : Rm) (n to : Int) : (nextM m n to).ps.length ≤ m.ps.length + 1 := by
 unfold nextM;split
 ·simp
 ·simp
theorem asked_parts {d : Dk} {m : Rm} {n : Int} (h : askedB d m n = true) : tabB m (d.S.length : Int) = true ∧ usableB n (half (d.S.length : Int)) = true ∧ hvI d = half (d.S.length : Int) ∧ formedB d = true ∧ half (d.S.length : Int) ≠ 0 := by
 unfold askedB at h
 simp only [Bool.and_eq_true] at h
 have h2 := (tab_parts h.2).1
 have h1 := h.1
 unfold hvI at h1 ⊢
 split at h1
 ·rename_i hf
  exact ⟨h.2, h1, by rw [if_pos hf], hf, h2⟩
 ·simp [usableB] at h1
def spX (d : Dk) (m : Rm) (n : Int) (b : List UInt8) : Int × Int × Dk := spareR m b 20 (2 * half (d.S.length : Int)) (writeD d (atI m n) b)
def wrX (d : Dk) (m : Rm) (n : Int) (b : List UInt8) : Int × Dk × Rm :=
 if askedB d m n = false then (1, d, m) else
 if writeE d (atI m n) ≠ 2 then (writeE d (atI m n), writeD d (atI m n) b, m) else
 if (spX d m n b).2.1 ≠ 0 then ((spX d m n b).2.1, (spX d m n b).2.2, m) else
 if plc m n < 0 ∧ m.ps.length = 20 then (17, (spX d m n b).2.2, m) else
 if flushE (spX d m n b).2.2 ≠ 0 then (flushE (spX d m n b).2.2, flushD (spX d m n b).2.2, m) else
 if (keepX (flushD (spX d m n b).2.2) (nextM m n (spX d m n b).1)).1 ≠ 0 then ((keepX (flushD (spX d m n b).2.2) (nextM m n (spX d m n b).1)).1, (keepX (flushD (spX d m n b).2.2) (nextM m n (spX d m n b).1)).2, m) else
 (0, (keepX (flushD (spX d m n b).2.2) (nextM m n (spX d m n b).1)).2, nextM m n (spX d m n b).1)
theorem wrX_no {d : Dk} {m : Rm} {n : Int} {b : List UInt8} (h : askedB d m n = false) : wrX d m n b = (1, d, m) := by unfold wrX;rw [if_pos h]
section
variable {d d1 d2 : Dk} {m : Rm} {n q to e : Int} {b : List UInt8} (h : askedB d m n = true) (hq : atI m n = q)
include h hq
theorem wrX_1 (h1 : writeE d q ≠ 2) : wrX d m n b = (writeE d q, writeD d q b, m) := by
 subst hq
 unfold wrX;rw [if_neg (by simp [h]), if_pos h1]
variable (h1 : writeE d q = 2) (hs : spareR m b 20 (2 * half (d.S.length : Int)) (writeD d q b) = (to, e, d2))
include h1 hs
theorem wrX_2 (h2 : e ≠ 0) : wrX d m n b = (e, d2, m) := by
 subst hq
 have hs' : spX d m n b = (to, e, d2) := hs
 unfold wrX;rw [hs', if_neg (by simp [h]), if_neg (by omega), if_pos h2]
theorem wrX_3 (h2 : e = 0) (h3 : plc m n < 0 ∧ m.ps.length = 20) : wrX d m n b = (17, d2, m) := by
 subst hq
 have hs' : spX d m n b = (to, e, d2) := hs
 unfold wrX;rw [hs', if_neg (by simp [h]), if_neg (by omega), if_neg (by show ¬ e ≠ 0;omega), if_pos h3]
theorem wrX_4 (h2 : e = 0) (h3 : ¬ (plc m n < 0 ∧ m.ps.length = 20)) (h4 : flushE d2 ≠ 0) : wrX d m n b = (flushE d2, flushD d2, m) := by
 subst hq
 have hs' : spX d m n b = (to, e, d2) := hs
 unfold wrX;rw [hs', if_neg (by simp [h]), if_neg (by omega), if_neg (by show ¬ e ≠ 0;omega), if_neg h3, if_pos h4]
theorem wrX_5 (h2 : e = 0) (h3 : ¬ (plc m n < 0 ∧ m.ps.length = 20)) (h4 : flushE d2 = 0) (h5 : (keepX (flushD d2) (nextM m n to)).1 ≠ 0) : wrX d m n b = ((keepX (flushD d2) (nextM m n to)).1, (keepX (flushD d2) (nextM m n to)).2, m) := by
 subst hq
 have hs' : spX d m n b = (to, e, d2) := hs
 unfold wrX;rw [hs', if_neg (by simp [h]), if_neg (by omega), if_neg (by show ¬ e ≠ 0;omega), if_neg h3, if_neg (by show ¬ flushE d2 ≠ 0;omega), if_pos h5]
theorem wrX_6 (h2 : e = 0) (h3 : ¬ (plc m n < 0 ∧ m.ps.length = 20)) (h4 : flushE d2 = 0) (h5 : (keepX (flushD d2) (nextM m n to)).1 = 0) : wrX d m n b = (0, (keepX (flushD d2) (nextM m n to)).2, nextM m n to) := by
 subst hq
 have hs' : spX d m n b = (to, e, d2) := hs
 unfold wrX;rw [hs', if_neg (by simp [h]), if_neg (by omega), if_neg (by show ¬ e ≠ 0;omega), if_neg h3, if_neg (by show ¬ flushE d2 ≠ 0;omega), if_neg (by show ¬ (keepX (flushD d2) (nextM m n to)).1 ≠ 0;omega)]
end
end Go.Proofs.YtmkmpfnadcmcoaaGreatDoor.RmWrX
