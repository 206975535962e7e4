/- The theorems that the claim uses, text behind text (part 18). -/
import Derived.Test.YtmkmpfnadcmcoaaGreatDoorYad
import Derived.Test.YtmkmpfnadcmcoaaGreatDoorYae
import Derived.Test.YtmkmpfnadcmcoaaGreatDoorYao
set_option maxRecDepth 100000
set_option maxHeartbeats 8000000
set_option linter.unusedVariables false
set_option linter.unusedSimpArgs false
namespace Go.Proofs.YtmkmpfnadcmcoaaGreatDoor.DiskWrite
open Go Go.RowKit K EqKit ArrKit HeldKit GKit GRow DiskKit DiskAsk DiskForm DiskAct DiskNew DiskCopy DiskLay DiskFlush DiskTwins GApp
theorem places_w : (match Tryz.prog.underlying 68 with | some (.struct fields) => fields.toList.mapM (fun f => (Tryz.prog.info? f.type).map fun i => (f.offset, i.size)) | _ => none) = some [(0, 1), (1, 128)] := by kernel_rfl
theorem built_wri (a : Int) (b : List UInt8) (hb : b.length = 128) : Tryz.prog.built 68 [(0, .int .i64 a), (1, .agg (b.map B).toArray)] = some (Wri.mk a b).cells.toArray := by
 obtain ⟨i1, hi, hz0, hz1, hz2⟩ := info_parts infoW
 have hp := places_w
 unfold Program.built
 rw [hi, Tryz.underlying68] at *
 simp only [hz0] at *
 rw [hp]
 have h129 := ZWC_cells
 generalize Value.agg (Wri.mk 0 Z128).cells.toArray = zv at *
 have e1 := GApp.fill_lay #[Value.int .i64 a] 0 zv.cells
 have e2 := GApp.fill_lay (b.map B).toArray 1 (K.lay zv.cells 0 [Value.int .i64 a])
 have c1 : (Value.int .i64 a).cells = #[Value.int .i64 a] := rfl
 have c2 : (Value.agg (b.map B).toArray).cells = (b.map B).toArray := rfl
 unfold Instr.fill
 simp only [List.getElem?_toArray, List.getElem?_cons_zero, c1]
 rw [if_neg (by simp [h129]), e1]
 unfold Instr.fill
 simp only [List.getElem?_toArray, List.getElem?_cons_succ, List.getElem?_cons_zero, c2]
 rw [if_neg (by simp [hb, h129]), e2]
 unfold Instr.fill
 congr 1
 apply Array.ext_getElem?
 intro i
 rw [lay_get, lay_get, lay_size, h129]
 simp only [List.length_map, hb, List.length_cons, List.length_nil, Nat.zero_add]
 have hc : (Wri.mk a b).cells.toArray[i]? = (Wri.mk a b).cells[i]? := by rw [List.getElem?_toArray]
 have hl : (Wri.mk a b).cells.length = 129 := by rw [Wri.cells, List.length_cons, List.length_map, hb]
 rw [hc]
 rcases (show i = 0 ∨ (1 ≤ i ∧ i < 129) ∨ 129 ≤ i by omega) with rfl | h | h
 ·rw [if_neg (by omega), if_pos (by omega)];rfl
 ·obtain ⟨m, rfl⟩ : ∃ m, i = m + 1 := ⟨i - 1, by omega⟩
  rw [if_pos (by omega), Wri.data_at, Nat.add_sub_cancel]
 ·rw [if_neg (by omega), if_neg (by omega), Array.getElem?_eq_none (by omega), List.getElem?_eq_none (by omega)]

theorem Now.fr0 {w w1 w2 : World} {p : Nat} {d : Dk} (f : Fr0 w w1) (h : Now w1 w2 p d) : Now w w2 p d := ⟨h.at_, (f.weaken (S' := fun i => i = p) (fun _ _ h => h.elim)).trans h.fr⟩
theorem Now.of0 {w w1 : World} {p : Nat} {d : Dk} {sa : Option Addr} {sc : Nat} {ca : Option Addr} {cc : Nat} (h : DAt w p d sa sc ca cc) (f : Fr0 w w1) : Now w w1 p d := ⟨⟨sa, sc, ca, cc, h.keep f⟩, f.weaken (fun _ _ h => h.elim)⟩

theorem write_wrong (p : Nat) (a : Int) (b : List UInt8) (d : Dk) (sa : Option Addr) (sc : Nat) (ca : Option Addr) (cc : Nat) (w : World) (hok : d.ok) (hv : DAt w p d sa sc ca cc) (hb : b.length = 128) (hr : rightB d a = false) : Calls Tryz.prog 55 #[.pointer (some ⟨p, 0, none⟩), .int .i64 a, .agg (b.map B).toArray] w fun e w' => e = .returned (.int .i64 1) ∧ Now w w' p d := by
 have HF0 : Jq7 (Fr0 w (w.alloc (.cells (b.map B).toArray 36))) := jq7 (Fr.alloc (Fr.refl _ _) _)
 have HX0 : Jq7 (Bk (w.alloc (.cells (b.map B).toArray 36)) w.heap.size (b.map B).toArray 36) := jq7 (Bk.new w _)
 have HRI := jq7 (right_calls p a d sa sc ca cc (w.alloc (.cells (b.map B).toArray 36)) hok (hv.keep HF0.o))
 have HSP := jq7 (fun W (h : Fr0 (w.alloc (.cells (b.map B).toArray 36)) W) => spend_calls p d sa sc ca cc W hok ((hv.keep HF0.o).keep h))
 have HV := jq7 hv
 have HOK := jq7 hok
 have hpw : p < w.heap.size := Bk.lt hv.blk
 rw [hr] at HRI
 clear hv hok hr
 go_enter Tryz.func55, Tryz.ntmps55
 go_wp2_with (first | (go_at_call 32;(with_reducible refine (HRI.o).mono ?_);rintro e w2 ⟨rfl, hf2⟩;have HF2 := jq7 hf2;clear hf2))
 go_ret
 exact ⟨rfl, Now.of0 HV.o (HF0.o.then0 HF2.o)⟩

theorem write_down (p : Nat) (a : Int) (b : List UInt8) (d : Dk) (sa : Option Addr) (sc : Nat) (ca : Option Addr) (cc : Nat) (w : World) (hok : d.ok) (hv : DAt w p d sa sc ca cc) (hb : b.length = 128) (hr : rightB d a = true) (ha : actE d = 3) : Calls Tryz.prog 55 #[.pointer (some ⟨p, 0, none⟩), .int .i64 a, .agg (b.map B).toArray] w fun e w' => e = .returned (.int .i64 3) ∧ Now w w' p (actD d) := by
 have HF0 : Jq7 (Fr0 w (w.alloc (.cells (b.map B).toArray 36))) := jq7 (Fr.alloc (Fr.refl _ _) _)
 have HX0 : Jq7 (Bk (w.alloc (.cells (b.map B).toArray 36)) w.heap.size (b.map B).toArray 36) := jq7 (Bk.new w _)
 have HRI := jq7 (right_calls p a d sa sc ca cc (w.alloc (.cells (b.map B).toArray 36)) hok (hv.keep HF0.o))
 have HSP := jq7 (fun W (h : Fr0 (w.alloc (.cells (b.map B).toArray 36)) W) => spend_calls p d sa sc ca cc W hok ((hv.keep HF0.o).keep h))
 have HV := jq7 hv
 have HOK := jq7 hok
 have hpw : p < w.heap.size := Bk.lt hv.blk
 rw [hr] at HRI
 rw [ha] at HSP
 clear hv hok hr ha
 go_enter Tryz.func55, Tryz.ntmps55
 go_wp2_with (first | (go_at_call 32;(with_reducible refine (HRI.o).mono ?_);rintro e w2 ⟨rfl, hf2⟩;have HF2 := jq7 hf2;clear hf2) | (go_at_call 33;(with_reducible refine (HSP.o _ HF2.o).mono ?_);rintro e w3 ⟨rfl, hf3⟩;have HA3 := jq7 hf3;clear hf3))
 go_ret
 exact ⟨rfl, Now.fr0 (HF0.o.then0 HF2.o) HA3.o.now⟩

theorem write_nw (p : Nat) (a : Int) (b : List UInt8) (d : Dk) (sa : Option Addr) (sc : Nat) (ca : Option Addr) (cc : Nat) (w : World) (hok : d.ok) (hv : DAt w p d sa sc ca cc) (hb : b.length = 128) (hr : rightB d a = true) (ha : actE d = 0) (hn : (secAt d a).nw = true) : Calls Tryz.prog 55 #[.pointer (some ⟨p, 0, none⟩), .int .i64 a, .agg (b.map B).toArray] w fun e w' => e = .returned (.int .i64 2) ∧ Now w w' p (actD d) := by
 have HF0 : Jq7 (Fr0 w (w.alloc (.cells (b.map B).toArray 36))) := jq7 (Fr.alloc (Fr.refl _ _) _)
 have HX0 : Jq7 (Bk (w.alloc (.cells (b.map B).toArray 36)) w.heap.size (b.map B).toArray 36) := jq7 (Bk.new w _)
 have HRI := jq7 (right_calls p a d sa sc ca cc (w.alloc (.cells (b.map B).toArray 36)) hok (hv.keep HF0.o))
 have HSP := jq7 (fun W (h : Fr0 (w.alloc (.cells (b.map B).toArray 36)) W) => spend_calls p d sa sc ca cc W hok ((hv.keep HF0.o).keep h))
 have HV := jq7 hv
 have HOK := jq7 hok
 have hpw : p < w.heap.size := Bk.lt hv.blk
 have hrt := hr
 rw [rightB, Bool.and_eq_true] at hrt
 have htt := thereB_true.1 hrt.1
 have ha0 := htt.1
 have ha1 := htt.2
 have hq : a.toNat < d.S.length := by omega
 have hsn := hv.v.sn
 have hsm := hv.v.sm
 have hcn := hv.v.cn
 have hcm := hv.v.cm
 have HSX : Jq7 (secAt d a = d.S[a.toNat]) := jq7 (by rw [secAt, List.getD_eq_getElem?_getD, List.getElem?_eq_getElem hq];rfl)
 rw [HSX.o] at hn
 have HAS := jq7 (actD_S d)
 have HAC := jq7 (actD_C d)
 obtain ⟨sb, so, hso, -⟩ := hv.v.rs _ hq
 subst hso
 clear htt hrt
 rw [hr] at HRI
 rw [ha] at HSP
 have HN := jq7 hn
 clear hv hok hr ha hn
 go_enter Tryz.func55, Tryz.ntmps55
 go_wp2_with (first | (go_at_call 32;(with_reducible refine (HRI.o).mono ?_);rintro e w2 ⟨rfl, hf2⟩;have HF2 := jq7 hf2;clear hf2) | (go_at_call 33;(with_reducible refine (HSP.o _ HF2.o).mono ?_);rintro e w3 ⟨rfl, hf3⟩;have HA3 := jq7 hf3;have q0 : w3.cell? ⟨p, 0, none⟩ = some (.slice (some ⟨sb, so, none⟩) d.S.length sc) := (Bk.cell hf3.at_.blk 0).trans (by show some (Value.slice _ (actD d).S.length _) = _;rw [HAS.o]);have hrg : w3.rangeAt sb (so + a.toNat * 130) d.S[a.toNat].cells := (by have := hf3.at_.v.rs;rw [HAS.o] at this;exact RdG.at this hq);have hnw : w3.cell? ⟨sb, so + a.toNat * 130 + 129, none⟩ = some (.bool true) := (hrg 129 _ (Sec.nw_at (HOK.o.s _ (List.getElem_mem hq)))).trans (by rw [HN.o]);clear hrg;clear hf3))
 go_ret
 exact ⟨rfl, Now.fr0 (HF0.o.then0 HF2.o) HA3.o.now⟩

theorem write_yes (p : Nat) (a : Int) (b : List UInt8) (d : Dk) (sa : Option Addr) (sc : Nat) (ca : Option Addr) (cc : Nat) (w : World) (hok : d.ok) (hv : DAt w p d sa sc ca cc) (hb : b.length = 128) (hC : (d.C.length + 1) * 136 ≤ 140737488355328) (hwa : (Lit.int .i64 a).wf = true) (hr : rightB d a = true) (ha : actE d = 0) (hn : (secAt d a).nw = false) : Calls Tryz.prog 55 #[.pointer (some ⟨p, 0, none⟩), .int .i64 a, .agg (b.map B).toArray] w fun e w' => e = .returned (.int .i64 0) ∧ Now w w' p { actD d with C := d.C ++ [⟨a, b⟩] } := by
 have HF0 : Jq7 (Fr0 w (w.alloc (.cells (b.map B).toArray 36))) := jq7 (Fr.alloc (Fr.refl _ _) _)
 have HX0 : Jq7 (Bk (w.alloc (.cells (b.map B).toArray 36)) w.heap.size (b.map B).toArray 36) := jq7 (Bk.new w _)
 have HRI := jq7 (right_calls p a d sa sc ca cc (w.alloc (.cells (b.map B).toArray 36)) hok (hv.keep HF0.o))
 have HSP := jq7 (fun W (h : Fr0 (w.alloc (.cells (b.map B).toArray 36)) W) => spend_calls p d sa sc ca cc W hok ((hv.keep HF0.o).keep h))
 have HV := jq7 hv
 have HOK := jq7 hok
 have hpw : p < w.heap.size := Bk.lt hv.blk
 have hrt := hr
 rw [rightB, Bool.and_eq_true] at hrt
 have htt := thereB_true.1 hrt.1
 have ha0 := htt.1
 have ha1 := htt.2
 have hq : a.toNat < d.S.length := by omega
 have hsn := hv.v.sn
 have hsm := hv.v.sm
 have hcn := hv.v.cn
 have hcm := hv.v.cm
 have HSX : Jq7 (secAt d a = d.S[a.toNat]) := jq7 (by rw [secAt, List.getD_eq_getElem?_getD, List.getElem?_eq_getElem hq];rfl)
 rw [HSX.o] at hn
 have HAS := jq7 (actD_S d)
 have HAC := jq7 (actD_C d)
 obtain ⟨sb, so, hso, -⟩ := hv.v.rs _ hq
 subst hso
 clear htt hrt
 rw [hr] at HRI
 rw [ha] at HSP
 have HN := jq7 hn
 have HIX : Jq7 ((Tryz.prog.info? 36).map (·.size) = some (b.map B).toArray.size) := jq7 (by rw [info_b, List.size_toArray, List.length_map, hb])
 have HBW := jq7 (built_wri a b hb)
 have hwok : (Wri.mk a b).ok := ⟨hb, hwa⟩
 have HWOK := jq7 hwok
 have HX2 : Jq7 ((Wri.mk a b).cells.toArray.size = 129) := jq7 (by rw [List.size_toArray, Wri.leng hwok])
 obtain ⟨i1, hi, hz0, hz1, hz2⟩ := info_parts infoW
 have HJ : Jq7 (Tryz.prog.info? 68 = some i1 ∧ i1.zero = some (.agg (Wri.mk 0 Z128).cells.toArray) ∧ i1.size = 129 ∧ i1.bytes = 136) := jq7 ⟨hi, hz0, hz1, hz2⟩
 clear hi hz0 hz1 hz2
 clear hv hok hr ha hn hwok
 go_enter Tryz.func55, Tryz.ntmps55
 go_wp2_with (first | (go_at_call 32;(with_reducible refine (HRI.o).mono ?_);rintro e w2 ⟨rfl, hf2⟩;have HF2 := jq7 hf2;clear hf2) | (go_at_call 33;(with_reducible refine (HSP.o _ HF2.o).mono ?_);rintro e w3 ⟨rfl, hf3⟩;have HA3 := jq7 hf3;have q0 : w3.cell? ⟨p, 0, none⟩ = some (.slice (some ⟨sb, so, none⟩) d.S.length sc) := (Bk.cell hf3.at_.blk 0).trans (by show some (Value.slice _ (actD d).S.length _) = _;rw [HAS.o]);have hrg : w3.rangeAt sb (so + a.toNat * 130) d.S[a.toNat].cells := (by have := hf3.at_.v.rs;rw [HAS.o] at this;exact RdG.at this hq);have hnw : w3.cell? ⟨sb, so + a.toNat * 130 + 129, none⟩ = some (.bool false) := (hrg 129 _ (Sec.nw_at (HOK.o.s _ (List.getElem_mem hq)))).trans (by rw [HN.o]);clear hrg;clear hf3))
 have HST : Jq7 (Stand [(w.heap.size, .cells (b.map B).toArray 36 (0, 0))] w3) := jq7 (Stand.cons ((HA3.o.fr).keep (HF2.o.keep HX0.o (fun h => h)) (by omega)) (Stand.nil _))
 have HP0 : Jq7 (Bk w3.drew p (dval (actD d) (some ⟨sb, so, none⟩) sc ca cc) 25) := jq7 HA3.o.at_.blk
 have HDV0 : Jq7 (DV w3.drew (actD d) (some ⟨sb, so, none⟩) sc ca cc) := jq7 (HA3.o.at_.v.keep (Fr.drew (Fr.refl _ _)))
 have HRC0 : Jq7 (RdC w3.drew ca d.C) := jq7 (by have := HDV0.o.rc;rwa [HAC.o] at this)
 have HPF0 : Jq7 (Fr (fun i => i = p) w w3.drew) := jq7 (Fr.drew (((HF0.o.then0 HF2.o).weaken (fun _ _ h => h.elim)).trans HA3.o.fr))
 have HGW0 : Jq7 (p < w3.drew.heap.size) := jq7 (Bk.lt HP0.o)
 have HC1 : Jq7 ((dval (actD d) (some ⟨sb, so, none⟩) sc ca cc)[1]? = some (.slice ca d.C.length cc)) := jq7 (by show some (Value.slice ca (actD d).C.length cc) = _;rw [HAC.o])
 have hxp : w.heap.size ≠ p := by omega
 clear q0 hnw
 refine wp_region_noPanic ?_
 refine wp_region_held_drew (S := (Stand [(w.heap.size, .cells (b.map B).toArray 36 (0, 0))])) (by kernel_rfl) (Stand.drew HST.o) (fun hL0 => ?_)
 generalize w3.drew = wd at *
 refine tk0 (i := 0) (v := .pointer (some ⟨p, 0, none⟩)) rfl hL0 ?_
 refine tk0 (i := 1) (v := .pointer (some ⟨p, 0, none⟩)) rfl hL0 ?_
 simp only [Act.put,zA,zB,zC,zD,zE,zF]
 refine tk0 (i := 2) (v := .pointer (some ⟨p, 0, none⟩)) rfl hL0 ?_
 refine tk0 (i := 3) (v := .pointer (some ⟨p, 1, none⟩)) rfl hL0 ?_
 simp only [Act.put,zA,zB,zC,zD,zE,zF]
 refine tk0 (i := 6) (v := .int .i64 a) rfl hL0 ?_
 refine tk (i := 7) (v := .agg (b.map B).toArray) rfl (yields_row (by kernel_rfl) 36 _ rfl (w.heap.size) rfl 36 (b.map B).toArray (0, 0) _ (fun W h => Stand.a0 h) Tryz.underlying36 rfl HIX.o) hL0 ?_
 simp only [Act.put,zA,zB,zC,zD,zE,zF]
 refine tk (i := 8) (v := .agg (Wri.mk a b).cells.toArray) rfl (Or.inl ⟨by kernel_rfl, fun w hSw => GApp.run_build_op 68 _ rfl [(0, .int .i64 a), (1, .agg (b.map B).toArray)] (by simp [Act.eval, Act.put]) _ HBW.o⟩) hL0 ?_
 simp only [Act.put,zA,zB,zC,zD,zE,zF]
 change wpAnyH _ _ _ _ _ 7 #[true, true, true, true, false, false, true, true, true, false, false, false, false, false] _ _
 refine wpAnyH_ready (rs := [4, 9]) (by kernel_rfl) (by simp) ?_
 refine AllReadyH.cons rfl (fun K hK => ?_) (AllReadyH.cons rfl (fun K hK => ?_) (AllReadyH.nil))
 ·simp only [zA, zB, zC]
  refine (if_pos (by kernel_rfl)).mpr ?_
  have q1 : wd.cell? ⟨p, 1, none⟩ = some (.slice ca d.C.length cc) := (Bk.cell HP0.o 1).trans HC1.o
  have hlp : p < wd.heap.size := Bk.lt HP0.o
  go_wp2_with fail
  refine hK.out _ _ (hL0) (fun hL1 => ?_)
  clear hK K hL0
  clear q1 hlp
  change wpAnyH _ _ _ _ _ 6 #[true, true, true, true, true, false, true, true, true, false, false, false, false, false] _ _
  refine wpAnyH_ready (rs := [5, 9]) (by kernel_rfl) (by simp) ?_
  refine AllReadyH.cons rfl (fun K hK => ?_) (AllReadyH.cons rfl (fun K hK => ?_) (AllReadyH.nil))
  ·simp only [zA, zB, zC]
   refine (if_pos (by kernel_rfl)).mpr ?_
   go_wp2_with fail
   refine (clip_calls ca d.C.length cc _ hcn hcm).mono ?_
   rintro e wx1 ⟨rfl, rfl⟩
   dsimp only
   refine hK.out _ _ (hL1) (fun hL2 => ?_)
   clear hK K hL1
   change wpAnyH _ _ _ _ _ 5 #[true, true, true, true, true, true, true, true, true, false, false, false, false, false] _ _
   refine rd1 9 rfl fun K hK => ?_
   simp only [zA, zB, zC]
   refine GApp.wp_buildSlice_one 23 _ rfl 68 i1 _ 129 Tryz.underlying23 HJ.o.1 HJ.o.2.1 HJ.o.2.2.1 (by decide) (by decide) (Wri.mk a b).cells.toArray HX2.o rfl ?_
   refine hK.out _ _ (Stand.fr hL2 (Fr.alloc (Fr.refl (fun _ => False) _) _) (fun _ _ h => h)) (fun hL3 => ?_)
   clear hK K hL2
   have HP3 : Jq7 (Bk (wd.alloc (.cells (Wri.mk a b).cells.toArray 68)) p (dval (actD d) (some ⟨sb, so, none⟩) sc ca cc) 25) := jq7 (Fr.keep (Fr.alloc (Fr.refl (fun _ => False) wd) _) HP0.o (fun h => h))
   have HRC3 : Jq7 (RdC (wd.alloc (.cells (Wri.mk a b).cells.toArray 68)) ca d.C) := jq7 (RdG.keep HRC0.o (Fr.alloc (Fr.refl (fun _ => False) wd) _))
   have HDV3 : Jq7 (DV (wd.alloc (.cells (Wri.mk a b).cells.toArray 68)) (actD d) (some ⟨sb, so, none⟩) sc ca cc) := jq7 (DV.keep HDV0.o (Fr.alloc (Fr.refl (fun _ => False) wd) _))
   have HPF3 : Jq7 (Fr (fun i => i = p) w (wd.alloc (.cells (Wri.mk a b).cells.toArray 68))) := jq7 (Fr.then0 HPF0.o (Fr.alloc (Fr.refl (fun _ => False) wd) _))
   have HGW3 : Jq7 (p < (wd.alloc (.cells (Wri.mk a b).cells.toArray 68)).heap.size) := jq7 (Fr.lt (Fr.alloc (Fr.refl (fun _ => False) wd) _) HGW0.o)
   have HN3 : Jq7 (Bk (wd.alloc (.cells (Wri.mk a b).cells.toArray 68)) wd.heap.size (Wri.mk a b).cells.toArray 68) := jq7 (Bk.new _ _)
   generalize wd.heap.size = gn at *
   generalize (wd.alloc (.cells (Wri.mk a b).cells.toArray 68)) = wy2 at *
   change wpAnyH _ _ _ _ _ 4 #[true, true, true, true, true, true, true, true, true, true, false, false, false, false] _ _
   refine rd1 10 rfl fun K hK => ?_
   simp only [zA, zB, zC]
   obtain ⟨g, cap, cur, wz, hr5, hg5, ho5, hf5⟩ := GApp.run_append_one (P := Tryz.prog) wy2 23 23 i1 _ 136 Tryz.underlying23 HJ.o.1 HJ.o.2.1 HJ.o.2.2.1 HJ.o.2.2.2 ZWC_cells (by decide) ca d.C.length d.C rfl HRC3.o (wris_len HOK.o.c) gn 1 ⟨a, b⟩ (Wri.leng HWOK.o) HN3.o (by omega) hC (fun e => by subst e;exact RdG.none_len HRC3.o)
   refine GApp.wp_append_run _ _ 23 rfl _ _ _ rfl rfl hr5 ?_
   refine hK.out _ _ (Stand.fr hL3 hf5 (fun _ _ h => h)) (fun hL4 => ?_)
   clear hK K hL3
   have HP4 : Jq7 (Bk wz p (dval (actD d) (some ⟨sb, so, none⟩) sc ca cc) 25) := kq0 hf5 HP3
   have HRC4 : Jq7 (RdC wz ca d.C) := jq7 (RdG.keep HRC3.o hf5)
   have HDV4 : Jq7 (DV wz (actD d) (some ⟨sb, so, none⟩) sc ca cc) := jq7 (DV.keep HDV3.o hf5)
   have HPF4 : Jq7 (Fr (fun i => i = p) w wz) := jq7 (Fr.then0 HPF3.o hf5)
   have HGW4 : Jq7 (p < wz.heap.size) := jq7 (Fr.lt hf5 HGW3.o)
   have HN4 : Jq7 (Bk wz gn (Wri.mk a b).cells.toArray 68) := kq0 hf5 HN3
   have HO4 := jq7 ho5
   have HG4 := jq7 hg5
   clear hr5 hf5 ho5 hg5
   refine tk0 (i := 11) (v := .pointer (some ⟨p, 0, none⟩)) rfl hL4 ?_
   refine tk0 (i := 12) (v := .pointer (some ⟨p, 1, none⟩)) rfl hL4 ?_
   simp only [Act.put,zA,zB,zC,zD,zE,zF]
   change wpAnyH _ _ _ _ _ 1 #[true, true, true, true, true, true, true, true, true, true, true, true, true, false] _ _
   refine rd1 13 rfl fun K hK => ?_
   simp only [zA, zB, zC]
   have q1 : wz.cell? ⟨p, 1, none⟩ = some (.slice ca d.C.length cc) := (Bk.cell HP4.o 1).trans HC1.o
   have f1 := Bk.free HP4.o 1
   go_wp2_with fail
   refine hK.out _ _ (Stand.fr hL4 (Fr.set1 _ _ _ _) (fun r hr => by simp only [List.mem_cons, List.not_mem_nil, or_false] at hr;subst hr;exact hxp)) (fun hL5 => ?_)
   clear hK K hL4
   clear q1 f1
   change wpAnyH _ _ _ _ _ 0 #[true, true, true, true, true, true, true, true, true, true, true, true, true, true] _ _
   refine wpAnyH_done (by kernel_rfl) ?_ _
   refine NoPanic.normal ?_
   have HEND := jq7 hL5
   clear hL5
   go_wp2_with fail
   go_ret
   have hgp : g ≠ p := by have h1 := HPF4.o.size;have h2 := HG4.o;have h3 := HGW3.o;omega
   have hfs := Fr.set1 wz p 1 (.slice (some ⟨g, 0, none⟩) (d.C.length + 1) cap)
   have hv5 := DV.past (d := actD d) (HDV4.o) (actD_ok HOK.o) hfs HP4.o (dval_no _ _ _ _ _)
   have ho5 := OwnG.keep HO4.o hfs hgp
   refine ⟨rfl, ⟨⟨some ⟨sb, so, none⟩, sc, some ⟨g, 0, none⟩, cap, ?_, ?_⟩, (HPF4.o).trans hfs⟩⟩
   ·have := Bk.set HP4.o 1 (.slice (some ⟨g, 0, none⟩) (d.C.length + 1) cap)
    simp only [dval, List.length_append, List.length_cons, List.length_nil]
    exact this
   ·exact ⟨hv5.rs, ho5.rd, hv5.sn, hv5.sm, ho5.room, ho5.max⟩
  ·simp only [zA, zB, zC]
   refine (if_pos (by kernel_rfl)).mpr ?_
   refine GApp.wp_buildSlice_one 23 _ rfl 68 i1 _ 129 Tryz.underlying23 HJ.o.1 HJ.o.2.1 HJ.o.2.2.1 (by decide) (by decide) (Wri.mk a b).cells.toArray HX2.o rfl ?_
   refine hK.out _ _ (Stand.fr hL1 (Fr.alloc (Fr.refl (fun _ => False) _) _) (fun _ _ h => h)) (fun hL2 => ?_)
   clear hK K hL1
   have HP2 : Jq7 (Bk (wd.alloc (.cells (Wri.mk a b).cells.toArray 68)) p (dval (actD d) (some ⟨sb, so, none⟩) sc ca cc) 25) := jq7 (Fr.keep (Fr.alloc (Fr.refl (fun _ => False) wd) _) HP0.o (fun h => h))
   have HRC2 : Jq7 (RdC (wd.alloc (.cells (Wri.mk a b).cells.toArray 68)) ca d.C) := jq7 (RdG.keep HRC0.o (Fr.alloc (Fr.refl (fun _ => False) wd) _))
   have HDV2 : Jq7 (DV (wd.alloc (.cells (Wri.mk a b).cells.toArray 68)) (actD d) (some ⟨sb, so, none⟩) sc ca cc) := jq7 (DV.keep HDV0.o (Fr.alloc (Fr.refl (fun _ => False) wd) _))
   have HPF2 : Jq7 (Fr (fun i => i = p) w (wd.alloc (.cells (Wri.mk a b).cells.toArray 68))) := jq7 (Fr.then0 HPF0.o (Fr.alloc (Fr.refl (fun _ => False) wd) _))
   have HGW2 : Jq7 (p < (wd.alloc (.cells (Wri.mk a b).cells.toArray 68)).heap.size) := jq7 (Fr.lt (Fr.alloc (Fr.refl (fun _ => False) wd) _) HGW0.o)
   have HN2 : Jq7 (Bk (wd.alloc (.cells (Wri.mk a b).cells.toArray 68)) wd.heap.size (Wri.mk a b).cells.toArray 68) := jq7 (Bk.new _ _)
   generalize wd.heap.size = gn at *
   generalize (wd.alloc (.cells (Wri.mk a b).cells.toArray 68)) = wy1 at *
   change wpAnyH _ _ _ _ _ 5 #[true, true, true, true, true, false, true, true, true, true, false, false, false, false] _ _
   refine rd1 5 rfl fun K hK => ?_
   simp only [zA, zB, zC]
   go_wp2_with fail
   refine (clip_calls ca d.C.length cc _ hcn hcm).mono ?_
   rintro e wx2 ⟨rfl, rfl⟩
   dsimp only
   refine hK.out _ _ (hL2) (fun hL3 => ?_)
   clear hK K hL2
   change wpAnyH _ _ _ _ _ 4 #[true, true, true, true, true, true, true, true, true, true, false, false, false, false] _ _
   refine rd1 10 rfl fun K hK => ?_
   simp only [zA, zB, zC]
   obtain ⟨g, cap, cur, wz, hr5, hg5, ho5, hf5⟩ := GApp.run_append_one (P := Tryz.prog) wy1 23 23 i1 _ 136 Tryz.underlying23 HJ.o.1 HJ.o.2.1 HJ.o.2.2.1 HJ.o.2.2.2 ZWC_cells (by decide) ca d.C.length d.C rfl HRC2.o (wris_len HOK.o.c) gn 1 ⟨a, b⟩ (Wri.leng HWOK.o) HN2.o (by omega) hC (fun e => by subst e;exact RdG.none_len HRC2.o)
   refine GApp.wp_append_run _ _ 23 rfl _ _ _ rfl rfl hr5 ?_
   refine hK.out _ _ (Stand.fr hL3 hf5 (fun _ _ h => h)) (fun hL4 => ?_)
   clear hK K hL3
   have HP4 : Jq7 (Bk wz p (dval (actD d) (some ⟨sb, so, none⟩) sc ca cc) 25) := kq0 hf5 HP2
   have HRC4 : Jq7 (RdC wz ca d.C) := jq7 (RdG.keep HRC2.o hf5)
   have HDV4 : Jq7 (DV wz (actD d) (some ⟨sb, so, none⟩) sc ca cc) := jq7 (DV.keep HDV2.o hf5)
   have HPF4 : Jq7 (Fr (fun i => i = p) w wz) := jq7 (Fr.then0 HPF2.o hf5)
   have HGW4 : Jq7 (p < wz.heap.size) := jq7 (Fr.lt hf5 HGW2.o)
   have HN4 : Jq7 (Bk wz gn (Wri.mk a b).cells.toArray 68) := kq0 hf5 HN2
   have HO4 := jq7 ho5
   have HG4 := jq7 hg5
   clear hr5 hf5 ho5 hg5
   refine tk0 (i := 11) (v := .pointer (some ⟨p, 0, none⟩)) rfl hL4 ?_
   refine tk0 (i := 12) (v := .pointer (some ⟨p, 1, none⟩)) rfl hL4 ?_
   simp only [Act.put,zA,zB,zC,zD,zE,zF]
   change wpAnyH _ _ _ _ _ 1 #[true, true, true, true, true, true, true, true, true, true, true, true, true, false] _ _
   refine rd1 13 rfl fun K hK => ?_
   simp only [zA, zB, zC]
   have q1 : wz.cell? ⟨p, 1, none⟩ = some (.slice ca d.C.length cc) := (Bk.cell HP4.o 1).trans HC1.o
   have f1 := Bk.free HP4.o 1
   go_wp2_with fail
   refine hK.out _ _ (Stand.fr hL4 (Fr.set1 _ _ _ _) (fun r hr => by simp only [List.mem_cons, List.not_mem_nil, or_false] at hr;subst hr;exact hxp)) (fun hL5 => ?_)
   clear hK K hL4
   clear q1 f1
   change wpAnyH _ _ _ _ _ 0 #[true, true, true, true, true, true, true, true, true, true, true, true, true, true] _ _
   refine wpAnyH_done (by kernel_rfl) ?_ _
   refine NoPanic.normal ?_
   have HEND := jq7 hL5
   clear hL5
   go_wp2_with fail
   go_ret
   have hgp : g ≠ p := by have h1 := HPF4.o.size;have h2 := HG4.o;have h3 := HGW2.o;omega
   have hfs := Fr.set1 wz p 1 (.slice (some ⟨g, 0, none⟩) (d.C.length + 1) cap)
   have hv5 := DV.past (d := actD d) (HDV4.o) (actD_ok HOK.o) hfs HP4.o (dval_no _ _ _ _ _)
   have ho5 := OwnG.keep HO4.o hfs hgp
   refine ⟨rfl, ⟨⟨some ⟨sb, so, none⟩, sc, some ⟨g, 0, none⟩, cap, ?_, ?_⟩, (HPF4.o).trans hfs⟩⟩
   ·have := Bk.set HP4.o 1 (.slice (some ⟨g, 0, none⟩) (d.C.length + 1) cap)
    simp only [dval, List.length_append, List.length_cons, List.length_nil]
    exact this
   ·exact ⟨hv5.rs, ho5.rd, hv5.sn, hv5.sm, ho5.room, ho5.max⟩
 ·simp only [zA, zB, zC]
  refine (if_pos (by kernel_rfl)).mpr ?_
  refine GApp.wp_buildSlice_one 23 _ rfl 68 i1 _ 129 Tryz.underlying23 HJ.o.1 HJ.o.2.1 HJ.o.2.2.1 (by decide) (by decide) (Wri.mk a b).cells.toArray HX2.o rfl ?_
  refine hK.out _ _ (Stand.fr hL0 (Fr.alloc (Fr.refl (fun _ => False) _) _) (fun _ _ h => h)) (fun hL1 => ?_)
  clear hK K hL0
  have HP1 : Jq7 (Bk (wd.alloc (.cells (Wri.mk a b).cells.toArray 68)) p (dval (actD d) (some ⟨sb, so, none⟩) sc ca cc) 25) := jq7 (Fr.keep (Fr.alloc (Fr.refl (fun _ => False) wd) _) HP0.o (fun h => h))
  have HRC1 : Jq7 (RdC (wd.alloc (.cells (Wri.mk a b).cells.toArray 68)) ca d.C) := jq7 (RdG.keep HRC0.o (Fr.alloc (Fr.refl (fun _ => False) wd) _))
  have HDV1 : Jq7 (DV (wd.alloc (.cells (Wri.mk a b).cells.toArray 68)) (actD d) (some ⟨sb, so, none⟩) sc ca cc) := jq7 (DV.keep HDV0.o (Fr.alloc (Fr.refl (fun _ => False) wd) _))
  have HPF1 : Jq7 (Fr (fun i => i = p) w (wd.alloc (.cells (Wri.mk a b).cells.toArray 68))) := jq7 (Fr.then0 HPF0.o (Fr.alloc (Fr.refl (fun _ => False) wd) _))
  have HGW1 : Jq7 (p < (wd.alloc (.cells (Wri.mk a b).cells.toArray 68)).heap.size) := jq7 (Fr.lt (Fr.alloc (Fr.refl (fun _ => False) wd) _) HGW0.o)
  have HN1 : Jq7 (Bk (wd.alloc (.cells (Wri.mk a b).cells.toArray 68)) wd.heap.size (Wri.mk a b).cells.toArray 68) := jq7 (Bk.new _ _)
  generalize wd.heap.size = gn at *
  generalize (wd.alloc (.cells (Wri.mk a b).cells.toArray 68)) = wy0 at *
  change wpAnyH _ _ _ _ _ 6 #[true, true, true, true, false, false, true, true, true, true, false, false, false, false] _ _
  refine rd1 4 rfl fun K hK => ?_
  simp only [zA, zB, zC]
  have q1 : wy0.cell? ⟨p, 1, none⟩ = some (.slice ca d.C.length cc) := (Bk.cell HP1.o 1).trans HC1.o
  have hlp : p < wy0.heap.size := Bk.lt HP1.o
  go_wp2_with fail
  refine hK.out _ _ (hL1) (fun hL2 => ?_)
  clear hK K hL1
  clear q1 hlp
  change wpAnyH _ _ _ _ _ 5 #[true, true, true, true, true, false, true, true, true, true, false, false, false, false] _ _
  refine rd1 5 rfl fun K hK => ?_
  simp only [zA, zB, zC]
  go_wp2_with fail
  refine (clip_calls ca d.C.length cc _ hcn hcm).mono ?_
  rintro e wx2 ⟨rfl, rfl⟩
  dsimp only
  refine hK.out _ _ (hL2) (fun hL3 => ?_)
  clear hK K hL2
  change wpAnyH _ _ _ _ _ 4 #[true, true, true, true, true, true, true, true, true, true, false, false, false, false] _ _
  refine rd1 10 rfl fun K hK => ?_
  simp only [zA, zB, zC]
  obtain ⟨g, cap, cur, wz, hr5, hg5, ho5, hf5⟩ := GApp.run_append_one (P := Tryz.prog) wy0 23 23 i1 _ 136 Tryz.underlying23 HJ.o.1 HJ.o.2.1 HJ.o.2.2.1 HJ.o.2.2.2 ZWC_cells (by decide) ca d.C.length d.C rfl HRC1.o (wris_len HOK.o.c) gn 1 ⟨a, b⟩ (Wri.leng HWOK.o) HN1.o (by omega) hC (fun e => by subst e;exact RdG.none_len HRC1.o)
  refine GApp.wp_append_run _ _ 23 rfl _ _ _ rfl rfl hr5 ?_
  refine hK.out _ _ (Stand.fr hL3 hf5 (fun _ _ h => h)) (fun hL4 => ?_)
  clear hK K hL3
  have HP4 : Jq7 (Bk wz p (dval (actD d) (some ⟨sb, so, none⟩) sc ca cc) 25) := kq0 hf5 HP1
  have HRC4 : Jq7 (RdC wz ca d.C) := jq7 (RdG.keep HRC1.o hf5)
  have HDV4 : Jq7 (DV wz (actD d) (some ⟨sb, so, none⟩) sc ca cc) := jq7 (DV.keep HDV1.o hf5)
  have HPF4 : Jq7 (Fr (fun i => i = p) w wz) := jq7 (Fr.then0 HPF1.o hf5)
  have HGW4 : Jq7 (p < wz.heap.size) := jq7 (Fr.lt hf5 HGW1.o)
  have HN4 : Jq7 (Bk wz gn (Wri.mk a b).cells.toArray 68) := kq0 hf5 HN1
  have HO4 := jq7 ho5
  have HG4 := jq7 hg5
  clear hr5 hf5 ho5 hg5
  refine tk0 (i := 11) (v := .pointer (some ⟨p, 0, none⟩)) rfl hL4 ?_
  refine tk0 (i := 12) (v := .pointer (some ⟨p, 1, none⟩)) rfl hL4 ?_
  simp only [Act.put,zA,zB,zC,zD,zE,zF]
  change wpAnyH _ _ _ _ _ 1 #[true, true, true, true, true, true, true, true, true, true, true, true, true, false] _ _
  refine rd1 13 rfl fun K hK => ?_
  simp only [zA, zB, zC]
  have q1 : wz.cell? ⟨p, 1, none⟩ = some (.slice ca d.C.length cc) := (Bk.cell HP4.o 1).trans HC1.o
  have f1 := Bk.free HP4.o 1
  go_wp2_with fail
  refine hK.out _ _ (Stand.fr hL4 (Fr.set1 _ _ _ _) (fun r hr => by simp only [List.mem_cons, List.not_mem_nil, or_false] at hr;subst hr;exact hxp)) (fun hL5 => ?_)
  clear hK K hL4
  clear q1 f1
  change wpAnyH _ _ _ _ _ 0 #[true, true, true, true, true, true, true, true, true, true, true, true, true, true] _ _
  refine wpAnyH_done (by kernel_rfl) ?_ _
  refine NoPanic.normal ?_
  have HEND := jq7 hL5
  clear hL5
  go_wp2_with fail
  go_ret
  have hgp : g ≠ p := by have h1 := HPF4.o.size;have h2 := HG4.o;have h3 := HGW1.o;omega
  have hfs := Fr.set1 wz p 1 (.slice (some ⟨g, 0, none⟩) (d.C.length + 1) cap)
  have hv5 := DV.past (d := actD d) (HDV4.o) (actD_ok HOK.o) hfs HP4.o (dval_no _ _ _ _ _)
  have ho5 := OwnG.keep HO4.o hfs hgp
  refine ⟨rfl, ⟨⟨some ⟨sb, so, none⟩, sc, some ⟨g, 0, none⟩, cap, ?_, ?_⟩, (HPF4.o).trans hfs⟩⟩
  ·have := Bk.set HP4.o 1 (.slice (some ⟨g, 0, none⟩) (d.C.length + 1) cap)
   simp only [dval, List.length_append, List.length_cons, List.length_nil]
   exact this
  ·exact ⟨hv5.rs, ho5.rd, hv5.sn, hv5.sm, ho5.room, ho5.max⟩

theorem write_calls (p : Nat) (a : Int) (b : List UInt8) (d : Dk) (sa : Option Addr) (sc : Nat) (ca : Option Addr) (cc : Nat) (w : World) (hok : d.ok) (hv : DAt w p d sa sc ca cc) (hb : b.length = 128) (hC : (d.C.length + 1) * 136 ≤ 140737488355328) (hwa : (Lit.int .i64 a).wf = true) : Calls Tryz.prog 55 #[.pointer (some ⟨p, 0, none⟩), .int .i64 a, .agg (b.map B).toArray] w fun e w' => e = .returned (.int .i64 (writeE d a)) ∧ Now w w' p (writeD d a b) := by
 unfold writeE writeD
 cases hr : rightB d a with
 | false => rw [if_pos rfl, if_pos rfl];exact write_wrong p a b d sa sc ca cc w hok hv hb hr
 | true =>
  simp only [if_neg (show ¬ (true = false) by simp)]
  rcases actE_cases d with ha | ha
  ·rw [if_pos ha, if_pos ha];exact write_down p a b d sa sc ca cc w hok hv hb hr ha
  ·have h3 : ¬ actE d = 3 := by omega
   rw [if_neg h3, if_neg h3]
   cases hn : (secAt d a).nw with
   | true => rw [if_pos rfl, if_pos rfl];exact write_nw p a b d sa sc ca cc w hok hv hb hr ha hn
   | false => rw [if_neg (by simp), if_neg (by simp)];exact write_yes p a b d sa sc ca cc w hok hv hb hC hwa hr ha hn

end Go.Proofs.YtmkmpfnadcmcoaaGreatDoor.DiskWrite
