/- The theorems that the claim uses, text behind text (part 4). -/
import Derived.Test.YtlleandelcjhjaaDoorZac
import Derived.Laws.MakeOwn
import Derived.WalkSpells
set_option linter.unusedVariables false
set_option linter.unusedSimpArgs false
namespace Go.Proofs.YtlleandelcjhjaaDoor.DiskNew
open Go Go.RowKit Go.Proofs.YtlleandelcjhjaaDoor.K Go.Proofs.YtlleandelcjhjaaDoor.EqKit Go.Proofs.YtlleandelcjhjaaDoor.ArrKit Go.Proofs.YtlleandelcjhjaaDoor.HeldKit Go.Proofs.YtlleandelcjhjaaDoor.GKit Go.Proofs.YtlleandelcjhjaaDoor.GRow Go.Proofs.YtlleandelcjhjaaDoor.DiskKit Go.Proofs.YtlleandelcjhjaaDoor.DiskAsk Go.Proofs.YtlleandelcjhjaaDoor.DiskForm Go.Proofs.YtlleandelcjhjaaDoor.DiskAct
def newD (n : Int) : Dk := if 1 ≤ n ∧ n ≤ 4096 then ⟨List.replicate n.toNat Zs, [], -1, false⟩ else ⟨[], [], 0, false⟩
def newE (n : Int) : Int := if 1 ≤ n ∧ n ≤ 4096 then 0 else 1
theorem newD_ok (n : Int) : (newD n).ok := by
  unfold newD
  split
  · exact ⟨fun x hx => by rw [(List.mem_replicate.1 hx).2]; exact Zs_ok, fun x hx => by simp at hx, (show (Lit.int .i64 (-1)).wf = true by decide)⟩
  · exact ⟨fun x hx => by simp at hx, fun x hx => by simp at hx, (by decide)⟩
/-- a disk handed back -/
def Gives (w w' : World) (d : Dk) (e : Ending) (x : Int) : Prop := ∃ sa sc ca cc, e = .returned (.tuple #[.agg (dval d sa sc ca cc), .int .i64 x]) ∧ DV w' d sa sc ca cc ∧ Fr0 w w'
theorem DC_one (a b : Option Addr) (n m c k : Nat) (f : Int) (dn : Bool) : (DC (.slice a n c) (.slice b m k) f dn).all (·.oneCell') = true := by simp [Value.oneCell']
def DZ : Array Value := DC (.slice none 0 0) (.slice none 0 0) 0 false
def ZSC : Array Value := Zs.cells.toArray
theorem infoS : (Tryd.prog.info? 59).map (fun i => (i.zero, i.size, i.bytes)) = some (some (.agg ZSC), 130, 130) := by kernel_rfl
theorem made_get (n i : Nat) (h : i < n) : (madeCells ZSC n)[i]? = Zs.cells[i % 130]? := by
  have hz : ZSC.size = 130 := by rw [ZSC, List.size_toArray, Sec.len Zs_ok]
  have hm : i % 130 < ZSC.size := by rw [hz]; omega
  have hm2 : i % 130 < Zs.cells.length := by rw [Sec.len Zs_ok]; omega
  rw [madeCells, Array.getElem?_map, Array.getElem?_range, if_pos h, Option.map_some, hz, getElem!_pos ZSC _ hm]
  simp [ZSC]
theorem made_rd (w : World) (g n : Nat) {cs : Array Value} (hcs : madeCells ZSC (n * 130) = cs) (h : Bk w g cs 59) : RdS w (some ⟨g, 0, none⟩) (List.replicate n Zs) := RdG.of fun i hi j u hj => by
  subst hcs
  rw [List.length_replicate] at hi
  rw [List.getElem_replicate] at hj
  have hj' : j < 130 := by
    have := (List.getElem?_eq_some_iff.1 hj).1
    rwa [Sec.len Zs_ok] at this
  rw [Bk.cell h, made_get _ _ (by omega), show (0 + i * 130 + j) % 130 = j by omega]
  exact hj

set_option maxHeartbeats 2000000 in
set_option maxRecDepth 100000 in
theorem new_low (n : Int) (w : World) (h : n < 1) : Calls Tryd.prog 32 #[.int .i64 n] w fun e w' => Gives w w' (newD n) e (newE n) := by
  have hz : ∀ W, (zeroValue 39).run Tryd.prog W = .ok (.agg DZ) W := by intro W; kernel_rfl
  have c0 : decide (n < 1) = true := decide_eq_true h
  have HB : Hid (Bk (w.alloc (.cells DZ 39)) w.heap.size DZ 39) := Lib.hid (Bk.new w _)
  go_enter Tryd.func32, Tryd.ntmps32
  go_wp2_with (first | (((with_reducible show wpList _ _ _ ({ dst := _, op := Op.build 39 #[], type := _, pos := _, after := _, guard := _ } :: _) _ _)); refine build_eq rfl 39 _ rfl DZ (by kernel_rfl) ?_) | ((with_reducible show wpList _ _ _ ({ dst := _, op := Op.store 39 _ _, type := _, pos := _, after := _, guard := _ } :: _) _ _); refine wpList_store_row rfl 39 _ _ rfl w.heap.size DZ rfl rfl 39 DZ HB.out info_d rfl (DC_one _ _ _ _ _ _ _ _) ?_))
  refine fin_ct w.heap.size 39 DZ (.int .i64 1) (by rfl) (by rfl) (by rfl) (by rfl) Tryd.underlying39 (by rfl) info_d (ArrKit.Bk.row HB.out DZ) ?_
  rw [newD, newE, if_neg (by omega), if_neg (by omega)]
  exact ⟨none, 0, none, 0, rfl, ⟨RdG.nil _ _, RdG.nil _ _, by decide, by decide, by decide, by decide⟩, ArrKit.Fr.row (Fr.alloc (Fr.refl _ _) _) _ _ (.inl (Nat.le_refl _))⟩

set_option maxHeartbeats 2000000 in
set_option maxRecDepth 100000 in
theorem new_high (n : Int) (w : World) (h : 4096 < n) : Calls Tryd.prog 32 #[.int .i64 n] w fun e w' => Gives w w' (newD n) e (newE n) := by
  have hz : ∀ W, (zeroValue 39).run Tryd.prog W = .ok (.agg DZ) W := by intro W; kernel_rfl
  have c0 : decide (n < 1) = false := decide_eq_false (by omega)
  have c1 : decide (4096 < n) = true := decide_eq_true (by omega)
  have HB : Hid (Bk (w.alloc (.cells DZ 39)) w.heap.size DZ 39) := Lib.hid (Bk.new w _)
  go_enter Tryd.func32, Tryd.ntmps32
  go_wp2_with (first | (((with_reducible show wpList _ _ _ ({ dst := _, op := Op.build 39 #[], type := _, pos := _, after := _, guard := _ } :: _) _ _)); refine build_eq rfl 39 _ rfl DZ (by kernel_rfl) ?_) | ((with_reducible show wpList _ _ _ ({ dst := _, op := Op.store 39 _ _, type := _, pos := _, after := _, guard := _ } :: _) _ _); refine wpList_store_row rfl 39 _ _ rfl w.heap.size DZ rfl rfl 39 DZ HB.out info_d rfl (DC_one _ _ _ _ _ _ _ _) ?_))
  refine fin_ct w.heap.size 39 DZ (.int .i64 1) (by rfl) (by rfl) (by rfl) (by rfl) Tryd.underlying39 (by rfl) info_d (ArrKit.Bk.row HB.out DZ) ?_
  rw [newD, newE, if_neg (by omega), if_neg (by omega)]
  exact ⟨none, 0, none, 0, rfl, ⟨RdG.nil _ _, RdG.nil _ _, by decide, by decide, by decide, by decide⟩, ArrKit.Fr.row (Fr.alloc (Fr.refl _ _) _) _ _ (.inl (Nat.le_refl _))⟩

set_option maxHeartbeats 2000000 in
set_option maxRecDepth 100000 in
theorem new_good (n : Int) (w : World) (h : 1 ≤ n ∧ n ≤ 4096) : Calls Tryd.prog 32 #[.int .i64 n] w fun e w' => Gives w w' (newD n) e (newE n) := by
  have hz : ∀ W, (zeroValue 39).run Tryd.prog W = .ok (.agg DZ) W := by intro W; kernel_rfl
  obtain ⟨m, rfl⟩ : ∃ m : Nat, n = m := ⟨n.toNat, by omega⟩
  have c0 : decide ((m : Int) < 1) = false := decide_eq_false (by omega)
  have c1 : decide ((4096 : Int) < (m : Int)) = false := decide_eq_false (by omega)
  obtain ⟨i0, hi, hz0, hz1, hz2⟩ := info_parts infoS
  have hmk : ∀ W : World, (Instr.makeSlice 36 (.int .i64 (m : Int)) (.int .i64 (m : Int))).run Tryd.prog W = .ok (.slice (some ⟨W.heap.size, 0, none⟩) m m) (W.alloc (.cells (madeCells ZSC (m * 130)) 59)) := fun W => by
    have := run_make (P := Tryd.prog) W 36 59 i0 (.agg ZSC) Tryd.underlying36 hi hz0 .i64 .i64 m m (by omega) (by omega) (by rw [hz2]; omega) (by omega)
    rw [hz1, Int.toNat_natCast] at this
    exact this
  have hs1 : (w.alloc (.cells DZ 39)).heap.size = w.heap.size + 1 := by simp
  have hbd : Tryd.prog.built 39 [(0, .slice (some ⟨w.heap.size + 1, 0, none⟩) m m), (2, .int .i64 (-1))] = some (DC (.slice (some ⟨w.heap.size + 1, 0, none⟩) m m) (.slice none 0 0) (-1) false) := by kernel_rfl
  generalize hMC : madeCells ZSC (m * 130) = MC at *
  have HMC := Lib.hid hMC
  have HB : Hid (Bk ((w.alloc (.cells DZ 39)).alloc (.cells MC 59)) w.heap.size DZ 39) := Lib.hid (Bk.alloc (Bk.new w _) _)
  have HM : Hid (Bk ((w.alloc (.cells DZ 39)).alloc (.cells MC 59)) (w.heap.size + 1) MC 59) := Lib.hid (by have := Bk.new (w.alloc (.cells DZ 39)) (.cells MC 59); rwa [hs1] at this)
  have HF : Hid (Fr0 w ((w.alloc (.cells DZ 39)).alloc (.cells MC 59))) := Lib.hid (Fr.alloc (Fr.alloc (Fr.refl _ _) _) _)
  clear hMC hi hz0 hz1 hz2 hs1
  have HH := Lib.hid h
  clear h
  go_enter Tryd.func32, Tryd.ntmps32
  go_wp2_with (first | ((with_reducible show wpList _ _ _ ({ dst := _, op := Op.build 39 _, type := _, pos := _, after := _, guard := _ } :: _) _ _); refine build_ev rfl 39 _ rfl [(0, .slice (some ⟨w.heap.size + 1, 0, none⟩) m m), (2, .int .i64 (-1))] (by simp [Act.eval, Act.put]) (DC (.slice (some ⟨w.heap.size + 1, 0, none⟩) m m) (.slice none 0 0) (-1) false) hbd ?_) | ((with_reducible show wpList _ _ _ ({ dst := _, op := Op.store 39 _ _, type := _, pos := _, after := _, guard := _ } :: _) _ _); refine wpList_store_row rfl 39 _ _ rfl w.heap.size (DC (.slice (some ⟨w.heap.size + 1, 0, none⟩) m m) (.slice none 0 0) (-1) false) rfl rfl 39 DZ HB.out info_d rfl (DC_one _ _ _ _ _ _ _ _) ?_))
  have HN : Hid (Fr (fun i => i = w.heap.size) ((w.alloc (.cells DZ 39)).alloc (.cells MC 59)) (((w.alloc (.cells DZ 39)).alloc (.cells MC 59)).setRow w.heap.size (DC (.slice (some ⟨w.heap.size + 1, 0, none⟩) m m) (.slice none 0 0) (-1) false))) := Lib.hid (ArrKit.Fr.row (Fr.refl _ _) _ _ (.inr rfl))
  refine fin_ct w.heap.size 39 (DC (.slice (some ⟨w.heap.size + 1, 0, none⟩) m m) (.slice none 0 0) (-1) false) (.int .i64 0) (by rfl) (by rfl) (by rfl) (by rfl) Tryd.underlying39 (by rfl) info_d (ArrKit.Bk.row HB.out _) ?_
  have hM := HN.out.keep HM.out (by omega)
  have hh := HH.out
  rw [newD, newE, if_pos hh, if_pos hh, Int.toNat_natCast]
  refine ⟨some ⟨w.heap.size + 1, 0, none⟩, m, none, 0, by simp [dval], ⟨made_rd _ _ _ HMC.out hM, RdG.nil _ _, by simp, by omega, Nat.le_refl _, by omega⟩, ArrKit.Fr.row HF.out _ _ (.inl (Nat.le_refl _))⟩

theorem new_calls (n : Int) (w : World) : Calls Tryd.prog 32 #[.int .i64 n] w fun e w' => Gives w w' (newD n) e (newE n) := by
  by_cases h0 : n < 1
  · exact new_low n w h0
  · by_cases h1 : 4096 < n
    · exact new_high n w h1
    · exact new_good n w (by omega)

end Go.Proofs.YtlleandelcjhjaaDoor.DiskNew
namespace Go.Proofs.YtlleandelcjhjaaDoor.DiskCopy
open Go Go.RowKit Go.Proofs.YtlleandelcjhjaaDoor.K Go.Proofs.YtlleandelcjhjaaDoor.EqKit Go.Proofs.YtlleandelcjhjaaDoor.ArrKit Go.Proofs.YtlleandelcjhjaaDoor.HeldKit Go.Proofs.YtlleandelcjhjaaDoor.GKit Go.Proofs.YtlleandelcjhjaaDoor.GRow Go.Proofs.YtlleandelcjhjaaDoor.DiskKit Go.Proofs.YtlleandelcjhjaaDoor.DiskAsk Go.Proofs.YtlleandelcjhjaaDoor.DiskForm Go.Proofs.YtlleandelcjhjaaDoor.DiskAct Go.Proofs.YtlleandelcjhjaaDoor.DiskNew
theorem infoW : (Tryd.prog.info? 79).map (fun i => (i.zero, i.size, i.bytes)) = some (some (.agg (Wri.mk 0 Z128).cells.toArray), 129, 136) := by kernel_rfl
theorem secs_len {l : List Sec} (h : ∀ x ∈ l, x.ok) : ∀ x ∈ l, x.cells.length = 130 := fun x hx => Sec.len (h x hx)
theorem wris_len {l : List Wri} (h : ∀ x ∈ l, x.ok) : ∀ x ∈ l, x.cells.length = 129 := fun x hx => Wri.leng (h x hx)
theorem ZSC_cells : (Value.agg ZSC).cells.size = 130 := by
  show ZSC.size = 130
  rw [ZSC, List.size_toArray, Sec.len Zs_ok]
theorem ZWC_cells : (Value.agg (Wri.mk 0 Z128).cells.toArray).cells.size = 129 := by
  show (Wri.mk 0 Z128).cells.toArray.size = 129
  rw [List.size_toArray, Wri.leng ⟨by simp [Z128], by decide⟩]
abbrev OwnS (w : World) (g cap : Nat) (cur : Array Value) (l : List Sec) : Prop := OwnG Sec.cells 130 59 w g cap cur l
set_option maxHeartbeats 2000000 in
set_option maxRecDepth 100000 in
theorem clone_calls (sa : Option Addr) (sc : Nat) (l : List Sec) (w : World) (hrd : RdS w sa l) (hok : ∀ x ∈ l, x.ok) (h0 : 0 < l.length) (hn : l.length * 130 ≤ 140737488355328) :
    Calls Tryd.prog 61 #[.slice sa l.length sc] w fun e w' => ∃ g cap cur, e = .returned (.slice (some ⟨g, 0, none⟩) l.length cap) ∧ w.heap.size ≤ g ∧ OwnS w' g cap cur l ∧ Fr0 w w' := by
  obtain ⟨b, o, rfl, -, -⟩ := RdG.form hrd h0 Sec.pos
  obtain ⟨i0, hi, hz0, hz1, hz2⟩ := info_parts infoS
  have HI : Hid (Tryd.prog.info? 59 = some i0 ∧ i0.zero = some (.agg ZSC) ∧ i0.size = 130 ∧ i0.bytes = 130) := Lib.hid ⟨hi, hz0, hz1, hz2⟩
  have HE : Hid (Bk (w.alloc (.cells #[] 59)) w.heap.size #[] 59) := Lib.hid (Bk.new w _)
  have HRD : Hid (RdS (w.alloc (.cells #[] 59)) (some ⟨b, o, none⟩) l) := Lib.hid (RdG.keep hrd (Fr.alloc (Fr.refl _ _) _))
  have HOK := Lib.hid hok
  clear hi hz0 hz1 hz2 hrd hok
  have hes := @Lib.run_eql_slice_nil Tryd.prog
  go_enter Tryd.func61, Tryd.ntmps61
  go_wp2_with (at_builtin; refine wpList_append_all rfl (.tmp 5) (.tmp 6) 36 (by rfl) i0 (.agg ZSC) 130 Tryd.underlying36 HI.out.1 HI.out.2.1 HI.out.2.2.1 HI.out.2.2.2 ZSC_cells (by decide) w.heap.size HE.out (by rfl) (some ⟨b, o, none⟩) l.length sc (by rfl) l rfl HRD.out (secs_len HOK.out) (fun x _ => Sec.one x) (by omega) hn ?_; intro g cap cur w1 hge hown hfr)
  go_ret
  exact ⟨g, cap, cur, rfl, hge, hown, Fr.newG (Fr.alloc (Fr.refl _ _) _) hfr (Nat.le_refl _)⟩

theorem size_set (w : World) (a : Addr) (v : Value) : (w.setCell a v).heap.size = w.heap.size := by simp [World.setCell]
set_option maxHeartbeats 2000000 in
set_option maxRecDepth 100000 in
theorem copy_calls (d : Dk) (sa : Option Addr) (sc : Nat) (ca : Option Addr) (cc : Nat) (w : World) (hok : d.ok) (hv : DV w d sa sc ca cc) (hS : d.S.length * 130 ≤ 140737488355328) (hC : d.C.length * 136 ≤ 140737488355328) :
    Calls Tryd.prog 21 #[.agg (dval d sa sc ca cc)] w fun e w' => ∃ sa' sc' ca' cc', e = .returned (.agg (dval d sa' sc' ca' cc')) ∧ DV w' d sa' sc' ca' cc' ∧ Fr0 w w' := by
  obtain ⟨i0, hi, hz0, hz1, hz2⟩ := info_parts infoS
  have HI : Hid (Tryd.prog.info? 59 = some i0 ∧ i0.zero = some (.agg ZSC) ∧ i0.size = 130 ∧ i0.bytes = 130) := Lib.hid ⟨hi, hz0, hz1, hz2⟩
  clear hi hz0 hz1 hz2
  obtain ⟨i1, hi, hz0, hz1, hz2⟩ := info_parts infoW
  have HJ : Hid (Tryd.prog.info? 79 = some i1 ∧ i1.zero = some (.agg (Wri.mk 0 Z128).cells.toArray) ∧ i1.size = 129 ∧ i1.bytes = 136) := Lib.hid ⟨hi, hz0, hz1, hz2⟩
  clear hi hz0 hz1 hz2
  have hz : ∀ W, (zeroValue 39).run Tryd.prog W = .ok (.agg DZ) W := by intro W; kernel_rfl
  obtain ⟨SS, CC, ff, dd⟩ := d
  dsimp only [dval] at *
  have hs1 : (w.alloc (.cells (DC (.slice sa SS.length sc) (.slice ca CC.length cc) ff dd) 39)).heap.size = w.heap.size + 1 := by simp
  have hs2 : ((w.alloc (.cells (DC (.slice sa SS.length sc) (.slice ca CC.length cc) ff dd) 39)).alloc (.cells DZ 39)).heap.size = w.heap.size + 1 + 1 := by simp
  have HB0 : Hid (Bk (((w.alloc (.cells (DC (.slice sa SS.length sc) (.slice ca CC.length cc) ff dd) 39)).alloc (.cells DZ 39)).alloc (.cells #[] 59)) w.heap.size (DC (.slice sa SS.length sc) (.slice ca CC.length cc) ff dd) 39) := Lib.hid (Bk.alloc (Bk.alloc (Bk.new w _) _) _)
  have HR0 : Hid (Bk (((w.alloc (.cells (DC (.slice sa SS.length sc) (.slice ca CC.length cc) ff dd) 39)).alloc (.cells DZ 39)).alloc (.cells #[] 59)) (w.heap.size + 1) DZ 39) := Lib.hid (Bk.alloc (by have := Bk.new (w.alloc (.cells (DC (.slice sa SS.length sc) (.slice ca CC.length cc) ff dd) 39)) (.cells DZ 39); rwa [hs1] at this) _)
  have HE0 : Hid (Bk (((w.alloc (.cells (DC (.slice sa SS.length sc) (.slice ca CC.length cc) ff dd) 39)).alloc (.cells DZ 39)).alloc (.cells #[] 59)) (w.heap.size + 1 + 1) #[] 59) := Lib.hid (by have := Bk.new ((w.alloc (.cells (DC (.slice sa SS.length sc) (.slice ca CC.length cc) ff dd) 39)).alloc (.cells DZ 39)) (.cells #[] 59); rwa [hs2] at this)
  have HF0 : Hid (Fr0 w (((w.alloc (.cells (DC (.slice sa SS.length sc) (.slice ca CC.length cc) ff dd) 39)).alloc (.cells DZ 39)).alloc (.cells #[] 59))) := Lib.hid (Fr.alloc (Fr.alloc (Fr.alloc (Fr.refl _ _) _) _) _)
  have HRS : Hid (RdS (((w.alloc (.cells (DC (.slice sa SS.length sc) (.slice ca CC.length cc) ff dd) 39)).alloc (.cells DZ 39)).alloc (.cells #[] 59)) sa SS) := Lib.hid (RdG.keep hv.rs HF0.out)
  have HRC := Lib.hid hv.rc
  have HOS := Lib.hid hok.s
  have HOC := Lib.hid hok.c
  have hsm : SS.length ≤ 9223372036854775807 := by omega
  have hcm : CC.length ≤ 9223372036854775807 := by omega
  clear hs1 hs2 hok hv
  go_enter Tryd.func21, Tryd.ntmps21
  go_wp2_with (first | (at_builtin; refine wpList_append_all rfl (.tmp 3) (.tmp 5) 36 (by rfl) i0 (.agg ZSC) 130 Tryd.underlying36 HI.out.1 HI.out.2.1 HI.out.2.2.1 HI.out.2.2.2 ZSC_cells (by decide) (w.heap.size + 1 + 1) HE0.out (by rfl) sa SS.length sc (by rfl) SS rfl HRS.out (secs_len HOS.out) (fun x _ => Sec.one x) hsm hS ?_; intro g cap cur w1 hge hown hfr; have HO1 := Lib.hid hown; have HF1 := Lib.hid (Fr.newG HF0.out hfr (by omega)); have HB1 := Lib.hid (hfr.keep HB0.out (by omega)); have HR1 := Lib.hid (hfr.keep HR0.out (by omega)); have hlt1 : w.heap.size < w1.heap.size := Bk.lt HB1.out; have p0 : w1.cell? ⟨w.heap.size, 0, none⟩ = some (.slice sa SS.length sc) := Bk.cell HB1.out 0; have p1 : w1.cell? ⟨w.heap.size, 1, none⟩ = some (.slice ca CC.length cc) := Bk.cell HB1.out 1; have f0 := Bk.free HB1.out 0; have f1 := Bk.free HB1.out 1; have HGE := Lib.hid hge; clear hown hfr hge) | (at_builtin; refine wpList_append_all rfl (.tmp 8) (.tmp 10) 37 (by rfl) i1 (.agg (Wri.mk 0 Z128).cells.toArray) 136 Tryd.underlying37 HJ.out.1 HJ.out.2.1 HJ.out.2.2.1 HJ.out.2.2.2 ZWC_cells (by decide) w1.heap.size (by have := Bk.new (w1.setCell ⟨w.heap.size, 0, none⟩ (.slice (some ⟨g, 0, none⟩) SS.length cap)) (.cells #[] 79); rwa [size_set] at this) (by rfl) ca CC.length cc (by rfl) CC rfl (RdG.keep HRC.out (Fr.alloc (Fr.set HF1.out _ _ (.inl (Nat.le_refl _))) _)) (wris_len HOC.out) (fun x _ => Wri.one x) hcm hC ?_; intro g2 cap2 cur2 w2 hge2 hown2 hfr2; have HO2 := Lib.hid hown2; have HB2 : Hid (Bk w2 w.heap.size (DC (.slice (some ⟨g, 0, none⟩) SS.length cap) (.slice ca CC.length cc) ff dd) 39) := Lib.hid (hfr2.keep (Bk.alloc (Bk.set HB1.out 0 _) _) (by omega)); have HR2 : Hid (Bk w2 (w.heap.size + 1) DZ 39) := Lib.hid (hfr2.keep (Bk.alloc (Bk.setOther HR1.out _ _ (by simp)) _) (by have := Bk.lt HR1.out; omega)); have HO3 : Hid (OwnS w2 g cap cur SS) := Lib.hid (OwnG.keep (OwnG.keep HO1.out (S := fun i => i = w.heap.size) (w1 := (w1.setCell ⟨w.heap.size, 0, none⟩ (.slice (some ⟨g, 0, none⟩) SS.length cap)).alloc (.cells #[] 79)) (Fr.alloc (Fr.set1 _ _ _ _) _) (by have := HGE.out; omega)) hfr2 (by have := Bk.lt HO1.out.blk; omega)); have HF2 := Lib.hid (Fr.newG (Fr.alloc (Fr.set HF1.out ⟨w.heap.size, 0, none⟩ (.slice (some ⟨g, 0, none⟩) SS.length cap) (.inl (Nat.le_refl _))) (.cells #[] 79)) hfr2 (by omega)); have hlt2 : w.heap.size < w2.heap.size := Bk.lt HB2.out; have HG2 : Hid (w1.heap.size ≤ g2) := Lib.hid hge2; have r1 : w2.cell? ⟨w.heap.size, 1, none⟩ = some (.slice ca CC.length cc) := Bk.cell HB2.out 1; have f21 := Bk.free HB2.out 1; have HB3 : Hid (Bk (w2.setCell ⟨w.heap.size, 1, none⟩ (.slice (some ⟨g2, 0, none⟩) CC.length cap2)) w.heap.size (DC (.slice (some ⟨g, 0, none⟩) SS.length cap) (.slice (some ⟨g2, 0, none⟩) CC.length cap2) ff dd) 39) := Lib.hid (Bk.set HB2.out 1 _); have HR3 : Hid (Bk (w2.setCell ⟨w.heap.size, 1, none⟩ (.slice (some ⟨g2, 0, none⟩) CC.length cap2)) (w.heap.size + 1) DZ 39) := Lib.hid (Bk.setOther HR2.out _ _ (by simp)); clear hown2 hfr2 hge2) | ((with_reducible show wpList _ _ _ ({ dst := _, op := Op.load 39 _, type := _, pos := _, after := _, guard := _ } :: _) _ _); refine wpList_load_row rfl 39 _ rfl w.heap.size rfl 39 _ (0, 0) _ HB3.out Tryd.underlying39 rfl info_d ?_) | ((with_reducible show wpList _ _ _ ({ dst := _, op := Op.store 39 _ _, type := _, pos := _, after := _, guard := _ } :: _) _ _); refine wpList_store_row rfl 39 _ _ rfl (w.heap.size + 1) (DC (.slice (some ⟨g, 0, none⟩) SS.length cap) (.slice (some ⟨g2, 0, none⟩) CC.length cap2) ff dd) rfl rfl 39 DZ HR3.out info_d rfl (DC_one _ _ _ _ _ _ _ _) ?_))
  refine fin_c (w.heap.size + 1) 39 (DC (.slice (some ⟨g, 0, none⟩) SS.length cap) (.slice (some ⟨g2, 0, none⟩) CC.length cap2) ff dd) (by rfl) (by rfl) (by rfl) Tryd.underlying39 (by rfl) info_d (ArrKit.Bk.row HR3.out _) ?_
  have k0 := HGE.out
  have k2 := HG2.out
  have k3 := Bk.lt HR1.out
  have HO4 := OwnG.keep (S := fun i => i = w.heap.size) HO3.out (Fr.set1 w2 w.heap.size 1 (.slice (some ⟨g2, 0, none⟩) CC.length cap2)) (by omega)
  have HO5 := OwnG.keep (S := fun i => i = w.heap.size) HO2.out (Fr.set1 w2 w.heap.size 1 (.slice (some ⟨g2, 0, none⟩) CC.length cap2)) (by omega)
  have fr := ArrKit.Fr.row (Fr.refl (fun i => i = w.heap.size + 1) (w2.setCell ⟨w.heap.size, 1, none⟩ (.slice (some ⟨g2, 0, none⟩) CC.length cap2))) (w.heap.size + 1) (DC (.slice (some ⟨g, 0, none⟩) SS.length cap) (.slice (some ⟨g2, 0, none⟩) CC.length cap2) ff dd) (.inr rfl)
  have HO6 := OwnG.keep HO4 fr (by omega)
  have HO7 := OwnG.keep HO5 fr (by omega)
  exact ⟨some ⟨g, 0, none⟩, cap, some ⟨g2, 0, none⟩, cap2, rfl, ⟨HO6.rd, HO7.rd, HO6.room, HO6.max, HO7.room, HO7.max⟩, ArrKit.Fr.row (Fr.set HF2.out _ _ (.inl (Nat.le_refl _))) _ _ (.inl (by omega))⟩

end Go.Proofs.YtlleandelcjhjaaDoor.DiskCopy
namespace Go.Proofs.YtlleandelcjhjaaDoor.DiskTwins
open Go Go.RowKit Go.Proofs.YtlleandelcjhjaaDoor.K Go.Proofs.YtlleandelcjhjaaDoor.EqKit Go.Proofs.YtlleandelcjhjaaDoor.ArrKit Go.Proofs.YtlleandelcjhjaaDoor.HeldKit Go.Proofs.YtlleandelcjhjaaDoor.GKit Go.Proofs.YtlleandelcjhjaaDoor.GRow Go.Proofs.YtlleandelcjhjaaDoor.DiskKit Go.Proofs.YtlleandelcjhjaaDoor.DiskAsk Go.Proofs.YtlleandelcjhjaaDoor.DiskForm Go.Proofs.YtlleandelcjhjaaDoor.DiskAct Go.Proofs.YtlleandelcjhjaaDoor.DiskNew Go.Proofs.YtlleandelcjhjaaDoor.DiskCopy
set_option maxHeartbeats 2000000 in
set_option maxRecDepth 100000 in
theorem clip_calls (ca : Option Addr) (n cc : Nat) (w : World) (hn : n ≤ cc) (hm : cc ≤ 9223372036854775807) : Calls Tryd.prog 74 #[.slice ca n cc] w fun e w' => e = .returned (.slice ca n n) ∧ w = w' := by
  cases ca with
  | none =>
    go_enter Tryd.func74, Tryd.ntmps74
    go_wp2
    go_ret
    exact ⟨rfl, rfl⟩
  | some x =>
    go_enter Tryd.func74, Tryd.ntmps74
    go_wp2
    go_ret
    exact ⟨rfl, rfl⟩
theorem DZ_no : ∀ (j : Nat) (x : Value), DZ[j]? = some x → ∀ v : UInt8, x ≠ B v := dc_no _ _ _ _ (by simp [B]) (by simp [B])

end Go.Proofs.YtlleandelcjhjaaDoor.DiskTwins
