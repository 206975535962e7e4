/- New disks: the walks of New of both. -/
import Derived.Test.YtboakipfhidkmaaDiskAct
import Derived.Laws.MakeOwn
set_option linter.unusedVariables false
set_option linter.unusedSimpArgs false
namespace Go.Proofs.Ytboakipfhidkmaa.DiskNew
open Go Go.RowKit Go.Proofs.Ytboakipfhidkmaa.K Go.Proofs.Ytboakipfhidkmaa.EqKit Go.Proofs.Ytboakipfhidkmaa.ArrKit Go.Proofs.Ytboakipfhidkmaa.HeldKit Go.Proofs.Ytboakipfhidkmaa.GKit Go.Proofs.Ytboakipfhidkmaa.GRow Go.Proofs.Ytboakipfhidkmaa.DiskKit Go.Proofs.Ytboakipfhidkmaa.DiskAsk Go.Proofs.Ytboakipfhidkmaa.DiskForm Go.Proofs.Ytboakipfhidkmaa.DiskAct

def newD (n : Int) : Dk := if 1 ≤ n ∧ n ≤ 4096 then ⟨List.replicate n.toNat Zs, [], -1, false⟩ else ⟨[], [], 0, false⟩
def newE (n : Int) : Int := if 1 ≤ n ∧ n ≤ 4096 then 0 else 1
theorem newD_ok (n : Int) : (newD n).ok := by
  unfold newD
  split
  · exact ⟨fun x hx => by rw [(List.mem_replicate.1 hx).2]; exact Zs_ok, fun x hx => by simp at hx, (show (Lit.int .i64 (-1)).wf = true by decide)⟩
  · exact ⟨fun x hx => by simp at hx, fun x hx => by simp at hx, (by decide)⟩
/-- a disk handed back -/
def Gives (w w' : World) (d : Dk) (e : Ending) (x : Int) : Prop := ∃ sa sc ca cc, e = .returned (.tuple #[.agg (dval d sa sc ca cc), .int .i64 x]) ∧ DV w' d sa sc ca cc ∧ Fr0 w w'
theorem DC_one (a b : Option Addr) (n m c k : Nat) (f : Int) (dn : Bool) : (DC (.slice a n c) (.slice b m k) f dn).all (·.oneCell') = true := by simp [Value.oneCell']
def DZ : Array Value := DC (.slice none 0 0) (.slice none 0 0) 0 false
theorem DZ_eq : dval ⟨[], [], 0, false⟩ none 0 none 0 = DZ := rfl
def ZSC : Array Value := Zs.cells.toArray
theorem infoS : (Try.prog.info? 67).map (fun i => (i.zero, i.size, i.bytes)) = some (some (.agg ZSC), 130, 130) := by kernel_rfl
theorem made_get (n i : Nat) (h : i < n) : (madeCells ZSC n)[i]? = Zs.cells[i % 130]? := by
  have hz : ZSC.size = 130 := by rw [ZSC, List.size_toArray, Sec.len Zs_ok]
  have hm : i % 130 < ZSC.size := by rw [hz]; omega
  have hm2 : i % 130 < Zs.cells.length := by rw [Sec.len Zs_ok]; omega
  rw [madeCells, Array.getElem?_map, Array.getElem?_range, if_pos h, Option.map_some, hz, getElem!_pos ZSC _ hm]
  simp [ZSC]
theorem made_rd (w : World) (g n : Nat) {cs : Array Value} (hcs : madeCells ZSC (n * 130) = cs) (h : Bk w g cs 67) : RdS w (some ⟨g, 0, none⟩) (List.replicate n Zs) := RdG.of fun i hi j u hj => by
  subst hcs
  rw [List.length_replicate] at hi
  rw [List.getElem_replicate] at hj
  have hj' : j < 130 := by
    have := (List.getElem?_eq_some_iff.1 hj).1
    rwa [Sec.len Zs_ok] at this
  rw [Bk.cell h, made_get _ _ (by omega), show (0 + i * 130 + j) % 130 = j by omega]
  exact hj

set_option maxHeartbeats 2000000 in
set_option maxRecDepth 100000 in
theorem new_low (n : Int) (w : World) (h : n < 1) : Calls Try.prog 13 #[.int .i64 n] w fun e w' => Gives w w' (newD n) e (newE n) := by
  have hz : ∀ W, (zeroValue 25).run Try.prog W = .ok (.agg DZ) W := by intro W; kernel_rfl
  have c0 : decide (n < 1) = true := decide_eq_true h
  have HB : Hid (Bk (w.alloc (.cells DZ 25)) w.heap.size DZ 25) := Lib.hid (Bk.new w _)
  go_enter Try.func13, Try.ntmps13
  go_wp2_with (first | (((with_reducible show wpList _ _ _ ({ dst := _, op := Op.build 25 #[], type := _, pos := _, after := _, guard := _ } :: _) _ _)); refine build_eq rfl 25 _ rfl DZ (by kernel_rfl) ?_) | ((with_reducible show wpList _ _ _ ({ dst := _, op := Op.store 25 _ _, type := _, pos := _, after := _, guard := _ } :: _) _ _); refine wpList_store_row rfl 25 _ _ rfl w.heap.size DZ rfl rfl 25 DZ HB.out info_d rfl (DC_one _ _ _ _ _ _ _ _) ?_))
  refine fin_ct w.heap.size 25 DZ (.int .i64 1) (by rfl) (by rfl) (by rfl) (by rfl) Try.underlying25 (by rfl) info_d (ArrKit.Bk.row HB.out DZ) ?_
  rw [newD, newE, if_neg (by omega), if_neg (by omega)]
  exact ⟨none, 0, none, 0, rfl, ⟨RdG.nil _ _, RdG.nil _ _, by decide, by decide, by decide, by decide⟩, ArrKit.Fr.row (Fr.alloc (Fr.refl _ _) _) _ _ (.inl (Nat.le_refl _))⟩

set_option maxHeartbeats 2000000 in
set_option maxRecDepth 100000 in
theorem new_high (n : Int) (w : World) (h : 4096 < n) : Calls Try.prog 13 #[.int .i64 n] w fun e w' => Gives w w' (newD n) e (newE n) := by
  have hz : ∀ W, (zeroValue 25).run Try.prog W = .ok (.agg DZ) W := by intro W; kernel_rfl
  have c0 : decide (n < 1) = false := decide_eq_false (by omega)
  have c1 : decide (4096 < n) = true := decide_eq_true (by omega)
  have HB : Hid (Bk (w.alloc (.cells DZ 25)) w.heap.size DZ 25) := Lib.hid (Bk.new w _)
  go_enter Try.func13, Try.ntmps13
  go_wp2_with (first | (((with_reducible show wpList _ _ _ ({ dst := _, op := Op.build 25 #[], type := _, pos := _, after := _, guard := _ } :: _) _ _)); refine build_eq rfl 25 _ rfl DZ (by kernel_rfl) ?_) | ((with_reducible show wpList _ _ _ ({ dst := _, op := Op.store 25 _ _, type := _, pos := _, after := _, guard := _ } :: _) _ _); refine wpList_store_row rfl 25 _ _ rfl w.heap.size DZ rfl rfl 25 DZ HB.out info_d rfl (DC_one _ _ _ _ _ _ _ _) ?_))
  refine fin_ct w.heap.size 25 DZ (.int .i64 1) (by rfl) (by rfl) (by rfl) (by rfl) Try.underlying25 (by rfl) info_d (ArrKit.Bk.row HB.out DZ) ?_
  rw [newD, newE, if_neg (by omega), if_neg (by omega)]
  exact ⟨none, 0, none, 0, rfl, ⟨RdG.nil _ _, RdG.nil _ _, by decide, by decide, by decide, by decide⟩, ArrKit.Fr.row (Fr.alloc (Fr.refl _ _) _) _ _ (.inl (Nat.le_refl _))⟩

set_option maxHeartbeats 2000000 in
set_option maxRecDepth 100000 in
theorem new_good (n : Int) (w : World) (h : 1 ≤ n ∧ n ≤ 4096) : Calls Try.prog 13 #[.int .i64 n] w fun e w' => Gives w w' (newD n) e (newE n) := by
  have hz : ∀ W, (zeroValue 25).run Try.prog W = .ok (.agg DZ) W := by intro W; kernel_rfl
  obtain ⟨m, rfl⟩ : ∃ m : Nat, n = m := ⟨n.toNat, by omega⟩
  have c0 : decide ((m : Int) < 1) = false := decide_eq_false (by omega)
  have c1 : decide ((4096 : Int) < (m : Int)) = false := decide_eq_false (by omega)
  obtain ⟨i0, hi, hz0, hz1, hz2⟩ := info_parts infoS
  have hmk : ∀ W : World, (Instr.makeSlice 22 (.int .i64 (m : Int)) (.int .i64 (m : Int))).run Try.prog W = .ok (.slice (some ⟨W.heap.size, 0, none⟩) m m) (W.alloc (.cells (madeCells ZSC (m * 130)) 67)) := fun W => by
    have := run_make (P := Try.prog) W 22 67 i0 (.agg ZSC) Try.underlying22 hi hz0 .i64 .i64 m m (by omega) (by omega) (by rw [hz2]; omega) (by omega)
    rw [hz1, Int.toNat_natCast] at this
    exact this
  have hs1 : (w.alloc (.cells DZ 25)).heap.size = w.heap.size + 1 := by simp
  have hbd : Try.prog.built 25 [(0, .slice (some ⟨w.heap.size + 1, 0, none⟩) m m), (2, .int .i64 (-1))] = some (DC (.slice (some ⟨w.heap.size + 1, 0, none⟩) m m) (.slice none 0 0) (-1) false) := by kernel_rfl
  generalize hMC : madeCells ZSC (m * 130) = MC at *
  have HMC := Lib.hid hMC
  have HB : Hid (Bk ((w.alloc (.cells DZ 25)).alloc (.cells MC 67)) w.heap.size DZ 25) := Lib.hid (Bk.alloc (Bk.new w _) _)
  have HM : Hid (Bk ((w.alloc (.cells DZ 25)).alloc (.cells MC 67)) (w.heap.size + 1) MC 67) := Lib.hid (by have := Bk.new (w.alloc (.cells DZ 25)) (.cells MC 67); rwa [hs1] at this)
  have HF : Hid (Fr0 w ((w.alloc (.cells DZ 25)).alloc (.cells MC 67))) := Lib.hid (Fr.alloc (Fr.alloc (Fr.refl _ _) _) _)
  clear hMC hi hz0 hz1 hz2 hs1
  have HH := Lib.hid h
  clear h
  go_enter Try.func13, Try.ntmps13
  go_wp2_with (first | ((with_reducible show wpList _ _ _ ({ dst := _, op := Op.build 25 _, type := _, pos := _, after := _, guard := _ } :: _) _ _); refine build_ev rfl 25 _ rfl [(0, .slice (some ⟨w.heap.size + 1, 0, none⟩) m m), (2, .int .i64 (-1))] (by simp [Act.eval, Act.put]) (DC (.slice (some ⟨w.heap.size + 1, 0, none⟩) m m) (.slice none 0 0) (-1) false) hbd ?_) | ((with_reducible show wpList _ _ _ ({ dst := _, op := Op.store 25 _ _, type := _, pos := _, after := _, guard := _ } :: _) _ _); refine wpList_store_row rfl 25 _ _ rfl w.heap.size (DC (.slice (some ⟨w.heap.size + 1, 0, none⟩) m m) (.slice none 0 0) (-1) false) rfl rfl 25 DZ HB.out info_d rfl (DC_one _ _ _ _ _ _ _ _) ?_))
  have HN : Hid (Fr (fun i => i = w.heap.size) ((w.alloc (.cells DZ 25)).alloc (.cells MC 67)) (((w.alloc (.cells DZ 25)).alloc (.cells MC 67)).setRow w.heap.size (DC (.slice (some ⟨w.heap.size + 1, 0, none⟩) m m) (.slice none 0 0) (-1) false))) := Lib.hid (ArrKit.Fr.row (Fr.refl _ _) _ _ (.inr rfl))
  refine fin_ct w.heap.size 25 (DC (.slice (some ⟨w.heap.size + 1, 0, none⟩) m m) (.slice none 0 0) (-1) false) (.int .i64 0) (by rfl) (by rfl) (by rfl) (by rfl) Try.underlying25 (by rfl) info_d (ArrKit.Bk.row HB.out _) ?_
  have hM := HN.out.keep HM.out (by omega)
  have hh := HH.out
  rw [newD, newE, if_pos hh, if_pos hh, Int.toNat_natCast]
  refine ⟨some ⟨w.heap.size + 1, 0, none⟩, m, none, 0, by simp [dval], ⟨made_rd _ _ _ HMC.out hM, RdG.nil _ _, by simp, by omega, Nat.le_refl _, by omega⟩, ArrKit.Fr.row HF.out _ _ (.inl (Nat.le_refl _))⟩

theorem new_calls (n : Int) (w : World) : Calls Try.prog 13 #[.int .i64 n] w fun e w' => Gives w w' (newD n) e (newE n) := by
  by_cases h0 : n < 1
  · exact new_low n w h0
  · by_cases h1 : 4096 < n
    · exact new_high n w h1
    · exact new_good n w (by omega)

set_option maxHeartbeats 2000000 in
set_option maxRecDepth 100000 in
theorem rnew_low (n : Int) (w : World) (h : n < 1) : Calls Try.prog 14 #[.int .i64 n] w fun e w' => Gives w w' (newD n) e (newE n) := by
  have hz : ∀ W, (zeroValue 25).run Try.prog W = .ok (.agg DZ) W := by intro W; kernel_rfl
  have c0 : decide (n < 1) = true := decide_eq_true h
  have HB : Hid (Bk (w.alloc (.cells DZ 25)) w.heap.size DZ 25) := Lib.hid (Bk.new w _)
  go_enter Try.func14, Try.ntmps14
  go_wp2_with (first | (((with_reducible show wpList _ _ _ ({ dst := _, op := Op.build 25 #[], type := _, pos := _, after := _, guard := _ } :: _) _ _)); refine build_eq rfl 25 _ rfl DZ (by kernel_rfl) ?_) | ((with_reducible show wpList _ _ _ ({ dst := _, op := Op.store 25 _ _, type := _, pos := _, after := _, guard := _ } :: _) _ _); refine wpList_store_row rfl 25 _ _ rfl w.heap.size DZ rfl rfl 25 DZ HB.out info_d rfl (DC_one _ _ _ _ _ _ _ _) ?_))
  refine fin_ct w.heap.size 25 DZ (.int .i64 1) (by rfl) (by rfl) (by rfl) (by rfl) Try.underlying25 (by rfl) info_d (ArrKit.Bk.row HB.out DZ) ?_
  rw [newD, newE, if_neg (by omega), if_neg (by omega)]
  exact ⟨none, 0, none, 0, rfl, ⟨RdG.nil _ _, RdG.nil _ _, by decide, by decide, by decide, by decide⟩, ArrKit.Fr.row (Fr.alloc (Fr.refl _ _) _) _ _ (.inl (Nat.le_refl _))⟩

set_option maxHeartbeats 2000000 in
set_option maxRecDepth 100000 in
theorem rnew_high (n : Int) (w : World) (h : 4096 < n) : Calls Try.prog 14 #[.int .i64 n] w fun e w' => Gives w w' (newD n) e (newE n) := by
  have hz : ∀ W, (zeroValue 25).run Try.prog W = .ok (.agg DZ) W := by intro W; kernel_rfl
  have c0 : decide (n < 1) = false := decide_eq_false (by omega)
  have c1 : decide (4096 < n) = true := decide_eq_true (by omega)
  have HB : Hid (Bk (w.alloc (.cells DZ 25)) w.heap.size DZ 25) := Lib.hid (Bk.new w _)
  go_enter Try.func14, Try.ntmps14
  go_wp2_with (first | (((with_reducible show wpList _ _ _ ({ dst := _, op := Op.build 25 #[], type := _, pos := _, after := _, guard := _ } :: _) _ _)); refine build_eq rfl 25 _ rfl DZ (by kernel_rfl) ?_) | ((with_reducible show wpList _ _ _ ({ dst := _, op := Op.store 25 _ _, type := _, pos := _, after := _, guard := _ } :: _) _ _); refine wpList_store_row rfl 25 _ _ rfl w.heap.size DZ rfl rfl 25 DZ HB.out info_d rfl (DC_one _ _ _ _ _ _ _ _) ?_))
  refine fin_ct w.heap.size 25 DZ (.int .i64 1) (by rfl) (by rfl) (by rfl) (by rfl) Try.underlying25 (by rfl) info_d (ArrKit.Bk.row HB.out DZ) ?_
  rw [newD, newE, if_neg (by omega), if_neg (by omega)]
  exact ⟨none, 0, none, 0, rfl, ⟨RdG.nil _ _, RdG.nil _ _, by decide, by decide, by decide, by decide⟩, ArrKit.Fr.row (Fr.alloc (Fr.refl _ _) _) _ _ (.inl (Nat.le_refl _))⟩

set_option maxHeartbeats 2000000 in
set_option maxRecDepth 100000 in
theorem rnew_good (n : Int) (w : World) (h : 1 ≤ n ∧ n ≤ 4096) : Calls Try.prog 14 #[.int .i64 n] w fun e w' => Gives w w' (newD n) e (newE n) := by
  have hz : ∀ W, (zeroValue 25).run Try.prog W = .ok (.agg DZ) W := by intro W; kernel_rfl
  obtain ⟨m, rfl⟩ : ∃ m : Nat, n = m := ⟨n.toNat, by omega⟩
  have c0 : decide ((m : Int) < 1) = false := decide_eq_false (by omega)
  have c1 : decide ((4096 : Int) < (m : Int)) = false := decide_eq_false (by omega)
  obtain ⟨i0, hi, hz0, hz1, hz2⟩ := info_parts infoS
  have hmk : ∀ W : World, (Instr.makeSlice 22 (.int .i64 (m : Int)) (.int .i64 (m : Int))).run Try.prog W = .ok (.slice (some ⟨W.heap.size, 0, none⟩) m m) (W.alloc (.cells (madeCells ZSC (m * 130)) 67)) := fun W => by
    have := run_make (P := Try.prog) W 22 67 i0 (.agg ZSC) Try.underlying22 hi hz0 .i64 .i64 m m (by omega) (by omega) (by rw [hz2]; omega) (by omega)
    rw [hz1, Int.toNat_natCast] at this
    exact this
  have hs1 : (w.alloc (.cells DZ 25)).heap.size = w.heap.size + 1 := by simp
  have hbd : Try.prog.built 25 [(0, .slice (some ⟨w.heap.size + 1, 0, none⟩) m m), (2, .int .i64 (-1))] = some (DC (.slice (some ⟨w.heap.size + 1, 0, none⟩) m m) (.slice none 0 0) (-1) false) := by kernel_rfl
  generalize hMC : madeCells ZSC (m * 130) = MC at *
  have HMC := Lib.hid hMC
  have HB : Hid (Bk ((w.alloc (.cells DZ 25)).alloc (.cells MC 67)) w.heap.size DZ 25) := Lib.hid (Bk.alloc (Bk.new w _) _)
  have HM : Hid (Bk ((w.alloc (.cells DZ 25)).alloc (.cells MC 67)) (w.heap.size + 1) MC 67) := Lib.hid (by have := Bk.new (w.alloc (.cells DZ 25)) (.cells MC 67); rwa [hs1] at this)
  have HF : Hid (Fr0 w ((w.alloc (.cells DZ 25)).alloc (.cells MC 67))) := Lib.hid (Fr.alloc (Fr.alloc (Fr.refl _ _) _) _)
  clear hMC hi hz0 hz1 hz2 hs1
  have HH := Lib.hid h
  clear h
  go_enter Try.func14, Try.ntmps14
  go_wp2_with (first | ((with_reducible show wpList _ _ _ ({ dst := _, op := Op.build 25 _, type := _, pos := _, after := _, guard := _ } :: _) _ _); refine build_ev rfl 25 _ rfl [(0, .slice (some ⟨w.heap.size + 1, 0, none⟩) m m), (2, .int .i64 (-1))] (by simp [Act.eval, Act.put]) (DC (.slice (some ⟨w.heap.size + 1, 0, none⟩) m m) (.slice none 0 0) (-1) false) hbd ?_) | ((with_reducible show wpList _ _ _ ({ dst := _, op := Op.store 25 _ _, type := _, pos := _, after := _, guard := _ } :: _) _ _); refine wpList_store_row rfl 25 _ _ rfl w.heap.size (DC (.slice (some ⟨w.heap.size + 1, 0, none⟩) m m) (.slice none 0 0) (-1) false) rfl rfl 25 DZ HB.out info_d rfl (DC_one _ _ _ _ _ _ _ _) ?_))
  have HN : Hid (Fr (fun i => i = w.heap.size) ((w.alloc (.cells DZ 25)).alloc (.cells MC 67)) (((w.alloc (.cells DZ 25)).alloc (.cells MC 67)).setRow w.heap.size (DC (.slice (some ⟨w.heap.size + 1, 0, none⟩) m m) (.slice none 0 0) (-1) false))) := Lib.hid (ArrKit.Fr.row (Fr.refl _ _) _ _ (.inr rfl))
  refine fin_ct w.heap.size 25 (DC (.slice (some ⟨w.heap.size + 1, 0, none⟩) m m) (.slice none 0 0) (-1) false) (.int .i64 0) (by rfl) (by rfl) (by rfl) (by rfl) Try.underlying25 (by rfl) info_d (ArrKit.Bk.row HB.out _) ?_
  have hM := HN.out.keep HM.out (by omega)
  have hh := HH.out
  rw [newD, newE, if_pos hh, if_pos hh, Int.toNat_natCast]
  refine ⟨some ⟨w.heap.size + 1, 0, none⟩, m, none, 0, by simp [dval], ⟨made_rd _ _ _ HMC.out hM, RdG.nil _ _, by simp, by omega, Nat.le_refl _, by omega⟩, ArrKit.Fr.row HF.out _ _ (.inl (Nat.le_refl _))⟩

theorem rnew_calls (n : Int) (w : World) : Calls Try.prog 14 #[.int .i64 n] w fun e w' => Gives w w' (newD n) e (newE n) := by
  by_cases h0 : n < 1
  · exact rnew_low n w h0
  · by_cases h1 : 4096 < n
    · exact rnew_high n w h1
    · exact rnew_good n w (by omega)

end Go.Proofs.Ytboakipfhidkmaa.DiskNew
