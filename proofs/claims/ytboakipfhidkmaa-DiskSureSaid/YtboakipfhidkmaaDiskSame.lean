/- Are two disks the same: the walk of Same of the reference at disks that are. -/
import Derived.Test.YtboakipfhidkmaaDiskNew
set_option linter.unusedVariables false
set_option linter.unusedSimpArgs false
namespace Go.Proofs.Ytboakipfhidkmaa.DiskSame
open Go Go.RowKit Go.Proofs.Ytboakipfhidkmaa.K Go.Proofs.Ytboakipfhidkmaa.EqKit Go.Proofs.Ytboakipfhidkmaa.ArrKit Go.Proofs.Ytboakipfhidkmaa.HeldKit Go.Proofs.Ytboakipfhidkmaa.GKit Go.Proofs.Ytboakipfhidkmaa.GRow Go.Proofs.Ytboakipfhidkmaa.DiskKit Go.Proofs.Ytboakipfhidkmaa.DiskAsk Go.Proofs.Ytboakipfhidkmaa.DiskForm Go.Proofs.Ytboakipfhidkmaa.DiskAct Go.Proofs.Ytboakipfhidkmaa.DiskNew

theorem run_neq_op {P : Program} {o : Oper} {a : Act} {x y : Operand} {t u : TypeId} {X Y : Array Value} {b : Bool} (ho : o.op = .binOp .neq t x y u) (hx : a.eval x = .agg X) (hy : a.eval y = .agg Y) (hm : P.eqGuardType P.depth t = false)
    (heq : ∀ W, (Op.equalIn 10000 t (.agg X) (.agg Y)).run P W = .ok b W) (w : World) : (execOp a.eval o).run P w = .ok (.value (.bool (!b))) w := by
  unfold execOp
  simp only [ho, hx, hy, Sem.run_bind, run_neq_struct, heq, Result.andThen, Sem.run_pure, run_eqGuard_agg _ _ _ _ _ _ _ hm]
theorem cells_b : Try.prog.cellsOf 29 = 128 := by kernel_rfl
theorem cells_u8 : Try.prog.cellsOf 5 = 1 := by kernel_rfl
theorem cells_bo : Try.prog.cellsOf 4 = 1 := by kernel_rfl
theorem cells_i64 : Try.prog.cellsOf 3 = 1 := by kernel_rfl
theorem lits_bool (d : Nat) (b : Bool) : Try.prog.keyLits (d + 1) 4 [.bool b] = some [Lit.bool b] := by
  unfold Program.keyLits
  rw [Try.underlying4]
theorem lits_i64 (d : Nat) {n : Int} (h : (Lit.int .i64 n).wf = true) : Try.prog.keyLits (d + 1) 3 [.int .i64 n] = some [Lit.int .i64 n] := by
  unfold Program.keyLits
  rw [Try.underlying3]
  simp [h]
theorem lits_block (d : Nat) (s : List UInt8) (hs : s.length = 128) : Try.prog.keyLits (d + 2) 29 (s.map B) = some (s.map fun v => Lit.int .u8 (v.toNat : Int)) := by
  have h := lits_row (k := .u8) d Try.underlying29 Try.underlying5 cells_u8 cells_b (s.map fun v => (v.toNat : Int)) (by simpa using hs) (fun z hz => by
    obtain ⟨v, -, rfl⟩ := List.mem_map.1 hz
    exact wf_u8 v)
  rw [List.map_map, List.map_map] at h
  exact h
theorem lits_sec {s : Sec} (h : s.ok) : Try.prog.keyLits 3 67 s.cells = some (s.data.map (fun v => Lit.int .u8 (v.toNat : Int)) ++ [Lit.bool s.nr, Lit.bool s.nw]) := by
  have hd : s.data.length = 128 := h
  unfold Program.keyLits
  rw [Try.underlying67]
  have e0 : (s.cells.drop 0).take 128 = s.data.map B := by rw [List.drop_zero, Sec.cells, List.take_append_of_le_length (by simp; omega), List.take_of_length_le (by simp; omega)]
  have e1 : (s.cells.drop 128).take 1 = [.bool s.nr] := by rw [Sec.cells, List.drop_append_of_le_length (by simp; omega), List.drop_eq_nil_of_le (by simp; omega)]; rfl
  have e2 : (s.cells.drop 129).take 1 = [.bool s.nw] := by
    rw [Sec.cells, List.drop_append, List.drop_eq_nil_of_le (by simp; omega), List.length_map, hd]; rfl
  rw [List.drop_zero] at e0
  simp [cells_s, cells_b, cells_bo, Sec.len h, e0, e1, e2, lits_block 0 s.data hd, lits_bool]
theorem lits_wri {x : Wri} (h : x.ok) : Try.prog.keyLits 3 65 x.cells = some (Lit.int .i64 x.pos :: x.data.map (fun v => Lit.int .u8 (v.toNat : Int))) := by
  have hd := h.len
  unfold Program.keyLits
  rw [Try.underlying65]
  have e0 : (x.cells.drop 1).take 128 = x.data.map B := by rw [Wri.cells, List.drop_one, List.tail_cons, List.take_of_length_le (by simp; omega)]
  have e1 : (x.cells.drop 0).take 1 = [.int .i64 x.pos] := by rw [List.drop_zero, Wri.cells]; rfl
  rw [List.drop_zero] at e1
  rw [List.drop_one] at e0
  simp [cells_w, cells_b, cells_i64, Wri.leng h, e0, e1, lits_block 0 x.data hd, lits_i64 _ h.wf]
theorem guard_s : Try.prog.eqGuardType Try.prog.depth 67 = false := by kernel_rfl
theorem guard_w : Try.prog.eqGuardType Try.prog.depth 65 = false := by kernel_rfl
theorem guard_b : Try.prog.eqGuardType Try.prog.depth 29 = false := by kernel_rfl
theorem eq_sec {s : Sec} (h : s.ok) (W : World) : (Op.equalIn 10000 67 (.agg s.cells.toArray) (.agg s.cells.toArray)).run Try.prog W = .ok true W := by
  obtain ⟨r, hr, hiff⟩ := run_equalIn_deep 9997 3 67 (by kernel_rfl) W 3 3 (.agg s.cells.toArray) (.agg s.cells.toArray) _ _ (by simp [Value.formed, Try.underlying67, cells_s, Sec.len h]) (by simp [Value.formed, Try.underlying67, cells_s, Sec.len h]) (lits_sec h) (lits_sec h)
  rw [show (10000 : Nat) = 9997 + 3 from rfl, hr]
  congr 1
  rw [hiff]
theorem eq_wri {x : Wri} (h : x.ok) (W : World) : (Op.equalIn 10000 65 (.agg x.cells.toArray) (.agg x.cells.toArray)).run Try.prog W = .ok true W := by
  obtain ⟨r, hr, hiff⟩ := run_equalIn_deep 9997 3 65 (by kernel_rfl) W 3 3 (.agg x.cells.toArray) (.agg x.cells.toArray) _ _ (by simp [Value.formed, Try.underlying65, cells_w, Wri.leng h]) (by simp [Value.formed, Try.underlying65, cells_w, Wri.leng h]) (lits_wri h) (lits_wri h)
  rw [show (10000 : Nat) = 9997 + 3 from rfl, hr]
  congr 1
  rw [hiff]
set_option maxHeartbeats 2000000 in
set_option maxRecDepth 100000 in
theorem same_calls (d : Dk) (sa : Option Addr) (sc : Nat) (ca : Option Addr) (cc : Nat) (sb : Option Addr) (sd : Nat) (cb : Option Addr) (cd : Nat) (w : World) (hok : d.ok) (hv : DV w d sa sc ca cc) (hv' : DV w d sb sd cb cd) : Calls Try.prog 15 #[.agg (dval d sa sc ca cc), .agg (dval d sb sd cb cd)] w fun e w' => e = .returned (.bool true) ∧ Fr0 w w' := by
  have hm := hv.sm
  have hsn := hv.sn
  have hcm := hv.cm
  have hcn := hv.cn
  have hsn' := hv'.sn
  have hsm' := hv'.sm
  have hcn' := hv'.cn
  have hcm' := hv'.cm
  have hs1 : (w.alloc (.cells (dval d sa sc ca cc) 25)).heap.size = w.heap.size + 1 := by simp
  have HA : Hid (Bk ((w.alloc (.cells (dval d sa sc ca cc) 25)).alloc (.cells (dval d sb sd cb cd) 25)) w.heap.size (dval d sa sc ca cc) 25) := Lib.hid (Bk.alloc (Bk.new w _) _)
  have HB : Hid (Bk ((w.alloc (.cells (dval d sa sc ca cc) 25)).alloc (.cells (dval d sb sd cb cd) 25)) (w.heap.size + 1) (dval d sb sd cb cd) 25) := Lib.hid (by have := Bk.new (w.alloc (.cells (dval d sa sc ca cc) 25)) (.cells (dval d sb sd cb cd) 25); rwa [hs1] at this)
  have HF : Hid (Fr0 w ((w.alloc (.cells (dval d sa sc ca cc) 25)).alloc (.cells (dval d sb sd cb cd) 25))) := Lib.hid (Fr.alloc (Fr.alloc (Fr.refl _ _) _) _)
  have HRS := Lib.hid hv.rs
  have HRC := Lib.hid hv.rc
  have HRS' := Lib.hid hv'.rs
  have HRC' := Lib.hid hv'.rc
  have HOS := Lib.hid hok.s
  have HOC := Lib.hid hok.c
  have hff : (d.fuse == d.fuse) = true := by simp
  have hdd : (d.down == d.down) = true := by simp
  clear hv hok hs1 hv'
  obtain ⟨SS, CC, ff, dd⟩ := d
  dsimp only [dval] at *
  go_enter Try.func15, Try.ntmps15
  go_wp2
  generalize hw0 : World.alloc _ _ = w0 at *
  clear hw0
  go_loopw [5] (fun i wr => ∃ k : Nat, k ≤ SS.length ∧ i = .int .i64 k ∧ Held w [(w.heap.size, .cells (DC (.slice sa SS.length sc) (.slice ca CC.length cc) ff dd) 25 (0, 0)), (w.heap.size + 1, .cells (DC (.slice sb SS.length sd) (.slice cb CC.length cd) ff dd) 25 (0, 0))] wr) (fun i _ => SS.length - (intOf i).toNat)
  case atStart => exact ⟨0, Nat.zero_le _, rfl, Held.cons HA.out (Held.cons HB.out (Held.nil HF.out))⟩
  case round =>
    obtain ⟨k, hk, rfl, hH⟩ := hrel
    have HH := Lib.hid hH
    have q0 : wr.cell? ⟨w.heap.size, 0, none⟩ = some (.slice sa SS.length sc) := Bk.cell (Held.a0 HH.out) 0
    have q1 : wr.cell? ⟨w.heap.size, 1, none⟩ = some (.slice ca CC.length cc) := Bk.cell (Held.a0 HH.out) 1
    clear hH
    by_cases hlt : k < SS.length
    · obtain ⟨b, o, rfl, hrg⟩ := HRS.out k hlt
      obtain ⟨b', o', rfl, hrg'⟩ := HRS'.out k hlt
      have HX := Lib.hid (HOS.out _ (List.getElem_mem hlt))
      have HIX : Hid ((Try.prog.info? 67).map (·.size) = some SS[k].cells.length) := Lib.hid (by rw [Sec.len HX.out, info_s])
      have HG : Hid (∀ W, Fr0 w W → W.rangeAt b (o + k * 130) SS[k].cells) := Lib.hid (fun W h => (RdG.keep HRS.out h).at hlt)
      have HG' : Hid (∀ W, Fr0 w W → W.rangeAt b' (o' + k * 130) SS[k].cells) := Lib.hid (fun W h => (RdG.keep HRS'.out h).at hlt)
      have HEQ : Hid (∀ W, (Op.equalIn 10000 67 (.agg SS[k].cells.toArray) (.agg SS[k].cells.toArray)).run Try.prog W = .ok true W) := Lib.hid (eq_sec HX.out)
      clear hrg hrg'
      go_wp2
      refine wp_region_noPanic ?_
      refine wp_region_held_drew (S := (Held w [(w.heap.size, .cells (DC (.slice (some ⟨b, o, none⟩) SS.length sc) (.slice ca CC.length cc) ff dd) 25 (0, 0)), (w.heap.size + 1, .cells (DC (.slice (some ⟨b', o', none⟩) SS.length sd) (.slice cb CC.length cd) ff dd) 25 (0, 0))])) (by kernel_rfl) (Held.drew HH.out) (fun hHeld0 => ?_)
      change wpAnyH _ _ _ _ _ 11 #[false, false, false, false, false, false, false, false, false, false, false] _ _
      refine wpAnyH_take (i := 0) (v := .pointer (some ⟨w.heap.size, 0, none⟩)) rfl (by kernel_rfl) (by kernel_rfl) (by kernel_rfl) (fun _ _ _ h => h) (Or.inl ⟨by kernel_rfl, fun w hSw => by first | kernel_rfl | (go_simp; done)⟩) hHeld0 ?_
      simp only [Act.put, List.getElem_toArray, List.getElem_cons_succ, List.getElem_cons_zero, List.setIfInBounds_toArray, List.set_cons_zero, List.set_cons_succ]
      change wpAnyH _ _ _ _ _ 10 #[true, false, false, false, false, false, false, false, false, false, false] _ _
      refine wpAnyH_take (i := 1) (v := .slice (some ⟨b, o, none⟩) SS.length sc) rfl (by kernel_rfl) (by kernel_rfl) (by kernel_rfl) (fun _ _ _ h => h) (Or.inl ⟨by kernel_rfl, fun w hSw => by have hcl := (fun W h => Bk.cell (Held.a0 h) 0) w hSw; go_simp⟩) hHeld0 ?_
      simp only [Act.put, List.getElem_toArray, List.getElem_cons_succ, List.getElem_cons_zero, List.setIfInBounds_toArray, List.set_cons_zero, List.set_cons_succ]
      change wpAnyH _ _ _ _ _ 9 #[true, true, false, false, false, false, false, false, false, false, false] _ _
      refine wpAnyH_take (i := 2) (v := .int .i64 (k : Int)) rfl (by kernel_rfl) (by kernel_rfl) (by kernel_rfl) (fun _ _ _ h => h) (Or.inl ⟨by kernel_rfl, fun w hSw => by first | kernel_rfl | (go_simp; done)⟩) hHeld0 ?_
      simp only [Act.put, List.getElem_toArray, List.getElem_cons_succ, List.getElem_cons_zero, List.setIfInBounds_toArray, List.set_cons_zero, List.set_cons_succ]
      change wpAnyH _ _ _ _ _ 8 #[true, true, true, false, false, false, false, false, false, false, false] _ _
      refine wpAnyH_take (i := 3) (v := .pointer (some ⟨b, o + k * 130, none⟩)) rfl (by kernel_rfl) (by kernel_rfl) (by kernel_rfl) (fun _ _ _ h => h) (Or.inl ⟨by kernel_rfl, fun w hSw => by go_simp⟩) hHeld0 ?_
      simp only [Act.put, List.getElem_toArray, List.getElem_cons_succ, List.getElem_cons_zero, List.setIfInBounds_toArray, List.set_cons_zero, List.set_cons_succ]
      change wpAnyH _ _ _ _ _ 7 #[true, true, true, true, false, false, false, false, false, false, false] _ _
      refine wpAnyH_take (i := 4) (v := .agg SS[k].cells.toArray) rfl (by kernel_rfl) (by kernel_rfl) (by kernel_rfl) (fun _ _ _ h => h) (yieldsIf_load_mid (by kernel_rfl) 67 _ rfl b (o + k * 130) rfl SS[k].cells _ (fun W h => HG.out W h.2) Try.underlying67 rfl HIX.out) hHeld0 ?_
      simp only [Act.put, List.getElem_toArray, List.getElem_cons_succ, List.getElem_cons_zero, List.setIfInBounds_toArray, List.set_cons_zero, List.set_cons_succ]
      change wpAnyH _ _ _ _ _ 6 #[true, true, true, true, true, false, false, false, false, false, false] _ _
      refine wpAnyH_take (i := 5) (v := .pointer (some ⟨w.heap.size + 1, 0, none⟩)) rfl (by kernel_rfl) (by kernel_rfl) (by kernel_rfl) (fun _ _ _ h => h) (Or.inl ⟨by kernel_rfl, fun w hSw => by first | kernel_rfl | (go_simp; done)⟩) hHeld0 ?_
      simp only [Act.put, List.getElem_toArray, List.getElem_cons_succ, List.getElem_cons_zero, List.setIfInBounds_toArray, List.set_cons_zero, List.set_cons_succ]
      change wpAnyH _ _ _ _ _ 5 #[true, true, true, true, true, true, false, false, false, false, false] _ _
      refine wpAnyH_take (i := 6) (v := .slice (some ⟨b', o', none⟩) SS.length sd) rfl (by kernel_rfl) (by kernel_rfl) (by kernel_rfl) (fun _ _ _ h => h) (Or.inl ⟨by kernel_rfl, fun w hSw => by have hcl := (fun W h => Bk.cell (Held.a0 (Held.tl h)) 0) w hSw; go_simp⟩) hHeld0 ?_
      simp only [Act.put, List.getElem_toArray, List.getElem_cons_succ, List.getElem_cons_zero, List.setIfInBounds_toArray, List.set_cons_zero, List.set_cons_succ]
      change wpAnyH _ _ _ _ _ 4 #[true, true, true, true, true, true, true, false, false, false, false] _ _
      refine wpAnyH_take (i := 7) (v := .int .i64 (k : Int)) rfl (by kernel_rfl) (by kernel_rfl) (by kernel_rfl) (fun _ _ _ h => h) (Or.inl ⟨by kernel_rfl, fun w hSw => by first | kernel_rfl | (go_simp; done)⟩) hHeld0 ?_
      simp only [Act.put, List.getElem_toArray, List.getElem_cons_succ, List.getElem_cons_zero, List.setIfInBounds_toArray, List.set_cons_zero, List.set_cons_succ]
      change wpAnyH _ _ _ _ _ 3 #[true, true, true, true, true, true, true, true, false, false, false] _ _
      refine wpAnyH_take (i := 8) (v := .pointer (some ⟨b', o' + k * 130, none⟩)) rfl (by kernel_rfl) (by kernel_rfl) (by kernel_rfl) (fun _ _ _ h => h) (Or.inl ⟨by kernel_rfl, fun w hSw => by go_simp⟩) hHeld0 ?_
      simp only [Act.put, List.getElem_toArray, List.getElem_cons_succ, List.getElem_cons_zero, List.setIfInBounds_toArray, List.set_cons_zero, List.set_cons_succ]
      change wpAnyH _ _ _ _ _ 2 #[true, true, true, true, true, true, true, true, true, false, false] _ _
      refine wpAnyH_take (i := 9) (v := .agg SS[k].cells.toArray) rfl (by kernel_rfl) (by kernel_rfl) (by kernel_rfl) (fun _ _ _ h => h) (yieldsIf_load_mid (by kernel_rfl) 67 _ rfl b' (o' + k * 130) rfl SS[k].cells _ (fun W h => HG'.out W h.2) Try.underlying67 rfl HIX.out) hHeld0 ?_
      simp only [Act.put, List.getElem_toArray, List.getElem_cons_succ, List.getElem_cons_zero, List.setIfInBounds_toArray, List.set_cons_zero, List.set_cons_succ]
      change wpAnyH _ _ _ _ _ 1 #[true, true, true, true, true, true, true, true, true, true, false] _ _
      refine wpAnyH_take (i := 10) (v := .bool false) rfl (by kernel_rfl) (by kernel_rfl) (by kernel_rfl) (fun _ _ _ h => h) (Or.inl ⟨by kernel_rfl, fun w hSw => run_neq_op rfl rfl rfl guard_s HEQ.out w⟩) hHeld0 ?_
      simp only [Act.put, List.getElem_toArray, List.getElem_cons_succ, List.getElem_cons_zero, List.setIfInBounds_toArray, List.set_cons_zero, List.set_cons_succ]
      change wpAnyH _ _ _ _ _ 0 #[true, true, true, true, true, true, true, true, true, true, true] _ _
      refine wpAnyH_done (by kernel_rfl) ?_ _
      refine NoPanic.normal ?_
      have HFIN := Lib.hid (Held.f hHeld0)
      have HEND := Lib.hid hHeld0
      clear hHeld0
      go_wp2
      go_roundw
      case rel => exact ⟨k + 1, by omega, by go_num, HEND.out⟩
      case measure => simp [intOf]; omega
    · obtain rfl : k = SS.length := by omega
      clear hlt
      go_wp2
      clear q0 q1
      obtain ⟨wz, rfl⟩ : ∃ wz : World, wz = wr := ⟨_, rfl⟩
      go_loopw [6] (fun i wr => ∃ k : Nat, k ≤ CC.length ∧ i = .int .i64 k ∧ Held w [(w.heap.size, .cells (DC (.slice sa SS.length sc) (.slice ca CC.length cc) ff dd) 25 (0, 0)), (w.heap.size + 1, .cells (DC (.slice sb SS.length sd) (.slice cb CC.length cd) ff dd) 25 (0, 0))] wr) (fun i _ => CC.length - (intOf i).toNat)
      case atStart => exact ⟨0, Nat.zero_le _, rfl, HH.out⟩
      case round =>
        clear HH
        obtain ⟨k, hk, rfl, hH⟩ := hrel
        have HH := Lib.hid hH
        have q1 : wr.cell? ⟨w.heap.size, 1, none⟩ = some (.slice ca CC.length cc) := Bk.cell (Held.a0 HH.out) 1
        clear hH
        by_cases hlt : k < CC.length
        · obtain ⟨b, o, rfl, hrg⟩ := HRC.out k hlt
          obtain ⟨b', o', rfl, hrg'⟩ := HRC'.out k hlt
          have HX := Lib.hid (HOC.out _ (List.getElem_mem hlt))
          have HIX : Hid ((Try.prog.info? 65).map (·.size) = some CC[k].cells.length) := Lib.hid (by rw [Wri.leng HX.out, info_w])
          have HG : Hid (∀ W, Fr0 w W → W.rangeAt b (o + k * 129) CC[k].cells) := Lib.hid (fun W h => (RdG.keep HRC.out h).at hlt)
          have HG' : Hid (∀ W, Fr0 w W → W.rangeAt b' (o' + k * 129) CC[k].cells) := Lib.hid (fun W h => (RdG.keep HRC'.out h).at hlt)
          have HEQ : Hid (∀ W, (Op.equalIn 10000 65 (.agg CC[k].cells.toArray) (.agg CC[k].cells.toArray)).run Try.prog W = .ok true W) := Lib.hid (eq_wri HX.out)
          clear hrg hrg'
          go_wp2
          refine wp_region_noPanic ?_
          refine wp_region_held_drew (S := (Held w [(w.heap.size, .cells (DC (.slice sa SS.length sc) (.slice (some ⟨b, o, none⟩) CC.length cc) ff dd) 25 (0, 0)), (w.heap.size + 1, .cells (DC (.slice sb SS.length sd) (.slice (some ⟨b', o', none⟩) CC.length cd) ff dd) 25 (0, 0))])) (by kernel_rfl) (Held.drew HH.out) (fun hHeld0 => ?_)
          change wpAnyH _ _ _ _ _ 11 #[false, false, false, false, false, false, false, false, false, false, false] _ _
          refine wpAnyH_take (i := 0) (v := .pointer (some ⟨w.heap.size, 1, none⟩)) rfl (by kernel_rfl) (by kernel_rfl) (by kernel_rfl) (fun _ _ _ h => h) (Or.inl ⟨by kernel_rfl, fun w hSw => by first | kernel_rfl | (go_simp; done)⟩) hHeld0 ?_
          simp only [Act.put, List.getElem_toArray, List.getElem_cons_succ, List.getElem_cons_zero, List.setIfInBounds_toArray, List.set_cons_zero, List.set_cons_succ]
          change wpAnyH _ _ _ _ _ 10 #[true, false, false, false, false, false, false, false, false, false, false] _ _
          refine wpAnyH_take (i := 1) (v := .slice (some ⟨b, o, none⟩) CC.length cc) rfl (by kernel_rfl) (by kernel_rfl) (by kernel_rfl) (fun _ _ _ h => h) (Or.inl ⟨by kernel_rfl, fun w hSw => by have hcl := (fun W h => Bk.cell (Held.a0 h) 1) w hSw; go_simp⟩) hHeld0 ?_
          simp only [Act.put, List.getElem_toArray, List.getElem_cons_succ, List.getElem_cons_zero, List.setIfInBounds_toArray, List.set_cons_zero, List.set_cons_succ]
          change wpAnyH _ _ _ _ _ 9 #[true, true, false, false, false, false, false, false, false, false, false] _ _
          refine wpAnyH_take (i := 2) (v := .int .i64 (k : Int)) rfl (by kernel_rfl) (by kernel_rfl) (by kernel_rfl) (fun _ _ _ h => h) (Or.inl ⟨by kernel_rfl, fun w hSw => by first | kernel_rfl | (go_simp; done)⟩) hHeld0 ?_
          simp only [Act.put, List.getElem_toArray, List.getElem_cons_succ, List.getElem_cons_zero, List.setIfInBounds_toArray, List.set_cons_zero, List.set_cons_succ]
          change wpAnyH _ _ _ _ _ 8 #[true, true, true, false, false, false, false, false, false, false, false] _ _
          refine wpAnyH_take (i := 3) (v := .pointer (some ⟨b, o + k * 129, none⟩)) rfl (by kernel_rfl) (by kernel_rfl) (by kernel_rfl) (fun _ _ _ h => h) (Or.inl ⟨by kernel_rfl, fun w hSw => by go_simp⟩) hHeld0 ?_
          simp only [Act.put, List.getElem_toArray, List.getElem_cons_succ, List.getElem_cons_zero, List.setIfInBounds_toArray, List.set_cons_zero, List.set_cons_succ]
          change wpAnyH _ _ _ _ _ 7 #[true, true, true, true, false, false, false, false, false, false, false] _ _
          refine wpAnyH_take (i := 4) (v := .agg CC[k].cells.toArray) rfl (by kernel_rfl) (by kernel_rfl) (by kernel_rfl) (fun _ _ _ h => h) (yieldsIf_load_mid (by kernel_rfl) 65 _ rfl b (o + k * 129) rfl CC[k].cells _ (fun W h => HG.out W h.2) Try.underlying65 rfl HIX.out) hHeld0 ?_
          simp only [Act.put, List.getElem_toArray, List.getElem_cons_succ, List.getElem_cons_zero, List.setIfInBounds_toArray, List.set_cons_zero, List.set_cons_succ]
          change wpAnyH _ _ _ _ _ 6 #[true, true, true, true, true, false, false, false, false, false, false] _ _
          refine wpAnyH_take (i := 5) (v := .pointer (some ⟨w.heap.size + 1, 1, none⟩)) rfl (by kernel_rfl) (by kernel_rfl) (by kernel_rfl) (fun _ _ _ h => h) (Or.inl ⟨by kernel_rfl, fun w hSw => by first | kernel_rfl | (go_simp; done)⟩) hHeld0 ?_
          simp only [Act.put, List.getElem_toArray, List.getElem_cons_succ, List.getElem_cons_zero, List.setIfInBounds_toArray, List.set_cons_zero, List.set_cons_succ]
          change wpAnyH _ _ _ _ _ 5 #[true, true, true, true, true, true, false, false, false, false, false] _ _
          refine wpAnyH_take (i := 6) (v := .slice (some ⟨b', o', none⟩) CC.length cd) rfl (by kernel_rfl) (by kernel_rfl) (by kernel_rfl) (fun _ _ _ h => h) (Or.inl ⟨by kernel_rfl, fun w hSw => by have hcl := (fun W h => Bk.cell (Held.a0 (Held.tl h)) 1) w hSw; go_simp⟩) hHeld0 ?_
          simp only [Act.put, List.getElem_toArray, List.getElem_cons_succ, List.getElem_cons_zero, List.setIfInBounds_toArray, List.set_cons_zero, List.set_cons_succ]
          change wpAnyH _ _ _ _ _ 4 #[true, true, true, true, true, true, true, false, false, false, false] _ _
          refine wpAnyH_take (i := 7) (v := .int .i64 (k : Int)) rfl (by kernel_rfl) (by kernel_rfl) (by kernel_rfl) (fun _ _ _ h => h) (Or.inl ⟨by kernel_rfl, fun w hSw => by first | kernel_rfl | (go_simp; done)⟩) hHeld0 ?_
          simp only [Act.put, List.getElem_toArray, List.getElem_cons_succ, List.getElem_cons_zero, List.setIfInBounds_toArray, List.set_cons_zero, List.set_cons_succ]
          change wpAnyH _ _ _ _ _ 3 #[true, true, true, true, true, true, true, true, false, false, false] _ _
          refine wpAnyH_take (i := 8) (v := .pointer (some ⟨b', o' + k * 129, none⟩)) rfl (by kernel_rfl) (by kernel_rfl) (by kernel_rfl) (fun _ _ _ h => h) (Or.inl ⟨by kernel_rfl, fun w hSw => by go_simp⟩) hHeld0 ?_
          simp only [Act.put, List.getElem_toArray, List.getElem_cons_succ, List.getElem_cons_zero, List.setIfInBounds_toArray, List.set_cons_zero, List.set_cons_succ]
          change wpAnyH _ _ _ _ _ 2 #[true, true, true, true, true, true, true, true, true, false, false] _ _
          refine wpAnyH_take (i := 9) (v := .agg CC[k].cells.toArray) rfl (by kernel_rfl) (by kernel_rfl) (by kernel_rfl) (fun _ _ _ h => h) (yieldsIf_load_mid (by kernel_rfl) 65 _ rfl b' (o' + k * 129) rfl CC[k].cells _ (fun W h => HG'.out W h.2) Try.underlying65 rfl HIX.out) hHeld0 ?_
          simp only [Act.put, List.getElem_toArray, List.getElem_cons_succ, List.getElem_cons_zero, List.setIfInBounds_toArray, List.set_cons_zero, List.set_cons_succ]
          change wpAnyH _ _ _ _ _ 1 #[true, true, true, true, true, true, true, true, true, true, false] _ _
          refine wpAnyH_take (i := 10) (v := .bool false) rfl (by kernel_rfl) (by kernel_rfl) (by kernel_rfl) (fun _ _ _ h => h) (Or.inl ⟨by kernel_rfl, fun w hSw => run_neq_op rfl rfl rfl guard_w HEQ.out w⟩) hHeld0 ?_
          simp only [Act.put, List.getElem_toArray, List.getElem_cons_succ, List.getElem_cons_zero, List.setIfInBounds_toArray, List.set_cons_zero, List.set_cons_succ]
          change wpAnyH _ _ _ _ _ 0 #[true, true, true, true, true, true, true, true, true, true, true] _ _
          refine wpAnyH_done (by kernel_rfl) ?_ _
          refine NoPanic.normal ?_
          have HFIN := Lib.hid (Held.f hHeld0)
          have HEND := Lib.hid hHeld0
          clear hHeld0
          go_wp2
          go_roundw
          case rel => exact ⟨k + 1, by omega, by go_num, HEND.out⟩
          case measure => simp [intOf]; omega
        · obtain rfl : k = CC.length := by omega
          clear hlt
          go_wp2
          go_ret
          exact ⟨rfl, HH.out.2⟩

end Go.Proofs.Ytboakipfhidkmaa.DiskSame
