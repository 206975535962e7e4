/- Are two disks the same: the walk of Same of the reference at disks that are. -/
import Derived.Test.YtlleandelcjhjaaDoorDiskTwins
set_option maxRecDepth 100000
set_option linter.unusedVariables false
set_option linter.unusedSimpArgs false
namespace Go.Proofs.YtlleandelcjhjaaDoor.DiskSame
open Go Go.RowKit Go.Proofs.YtlleandelcjhjaaDoor.K Go.Proofs.YtlleandelcjhjaaDoor.EqKit Go.Proofs.YtlleandelcjhjaaDoor.ArrKit Go.Proofs.YtlleandelcjhjaaDoor.HeldKit Go.Proofs.YtlleandelcjhjaaDoor.GKit Go.Proofs.YtlleandelcjhjaaDoor.GRow Go.Proofs.YtlleandelcjhjaaDoor.DiskKit Go.Proofs.YtlleandelcjhjaaDoor.DiskAsk Go.Proofs.YtlleandelcjhjaaDoor.DiskForm Go.Proofs.YtlleandelcjhjaaDoor.DiskAct Go.Proofs.YtlleandelcjhjaaDoor.DiskNew

theorem run_neq_op {P : Program} {o : Oper} {a : Act} {x y : Operand} {t u : TypeId} {X Y : Array Value} {b : Bool} (ho : o.op = .binOp .neq t x y u) (hx : a.eval x = .agg X) (hy : a.eval y = .agg Y) (hm : P.eqGuardType P.depth t = false)
    (heq : ∀ W, (Op.equalIn 10000 t (.agg X) (.agg Y)).run P W = .ok b W) (w : World) : (execOp a.eval o).run P w = .ok (.value (.bool (!b))) w := by
  unfold execOp
  simp only [ho, hx, hy, Sem.run_bind, run_neq_struct, heq, Result.andThen, Sem.run_pure, run_eqGuard_agg _ _ _ _ _ _ _ hm]
theorem cells_b : Tryd.prog.cellsOf 27 = 128 := by kernel_rfl
theorem cells_u8 : Tryd.prog.cellsOf 5 = 1 := by kernel_rfl
theorem cells_bo : Tryd.prog.cellsOf 4 = 1 := by kernel_rfl
theorem cells_i64 : Tryd.prog.cellsOf 3 = 1 := by kernel_rfl
theorem lits_bool (d : Nat) (b : Bool) : Tryd.prog.keyLits (d + 1) 4 [.bool b] = some [Lit.bool b] := by
  unfold Program.keyLits
  rw [Tryd.underlying4]
theorem lits_i64 (d : Nat) {n : Int} (h : (Lit.int .i64 n).wf = true) : Tryd.prog.keyLits (d + 1) 3 [.int .i64 n] = some [Lit.int .i64 n] := by
  unfold Program.keyLits
  rw [Tryd.underlying3]
  simp [h]
theorem lits_block (d : Nat) (s : List UInt8) (hs : s.length = 128) : Tryd.prog.keyLits (d + 2) 27 (s.map B) = some (s.map fun v => Lit.int .u8 (v.toNat : Int)) := by
  have h := lits_row (k := .u8) d Tryd.underlying27 Tryd.underlying5 cells_u8 cells_b (s.map fun v => (v.toNat : Int)) (by simpa using hs) (fun z hz => by
    obtain ⟨v, -, rfl⟩ := List.mem_map.1 hz
    exact wf_u8 v)
  rw [List.map_map, List.map_map] at h
  exact h
theorem lits_sec {s : Sec} (h : s.ok) : Tryd.prog.keyLits 3 59 s.cells = some (s.data.map (fun v => Lit.int .u8 (v.toNat : Int)) ++ [Lit.bool s.nr, Lit.bool s.nw]) := by
  have hd : s.data.length = 128 := h
  unfold Program.keyLits
  rw [Tryd.underlying59]
  have e0 : (s.cells.drop 0).take 128 = s.data.map B := by rw [List.drop_zero, Sec.cells, List.take_append_of_le_length (by simp; omega), List.take_of_length_le (by simp; omega)]
  have e1 : (s.cells.drop 128).take 1 = [.bool s.nr] := by rw [Sec.cells, List.drop_append_of_le_length (by simp; omega), List.drop_eq_nil_of_le (by simp; omega)]; rfl
  have e2 : (s.cells.drop 129).take 1 = [.bool s.nw] := by
    rw [Sec.cells, List.drop_append, List.drop_eq_nil_of_le (by simp; omega), List.length_map, hd]; rfl
  rw [List.drop_zero] at e0
  simp [cells_s, cells_b, cells_bo, Sec.len h, e0, e1, e2, lits_block 0 s.data hd, lits_bool]
theorem lits_wri {x : Wri} (h : x.ok) : Tryd.prog.keyLits 3 79 x.cells = some (Lit.int .i64 x.pos :: x.data.map (fun v => Lit.int .u8 (v.toNat : Int))) := by
  have hd := h.len
  unfold Program.keyLits
  rw [Tryd.underlying79]
  have e0 : (x.cells.drop 1).take 128 = x.data.map B := by rw [Wri.cells, List.drop_one, List.tail_cons, List.take_of_length_le (by simp; omega)]
  have e1 : (x.cells.drop 0).take 1 = [.int .i64 x.pos] := by rw [List.drop_zero, Wri.cells]; rfl
  rw [List.drop_zero] at e1
  rw [List.drop_one] at e0
  simp [cells_w, cells_b, cells_i64, Wri.leng h, e0, e1, lits_block 0 x.data hd, lits_i64 _ h.wf]
theorem guard_s : Tryd.prog.eqGuardType Tryd.prog.depth 59 = false := by kernel_rfl
theorem guard_w : Tryd.prog.eqGuardType Tryd.prog.depth 79 = false := by kernel_rfl
theorem guard_b : Tryd.prog.eqGuardType Tryd.prog.depth 27 = false := by kernel_rfl
theorem eq_sec {s : Sec} (h : s.ok) (W : World) : (Op.equalIn 10000 59 (.agg s.cells.toArray) (.agg s.cells.toArray)).run Tryd.prog W = .ok true W := by
  obtain ⟨r, hr, hiff⟩ := run_equalIn_deep 9997 3 59 (by kernel_rfl) W 3 3 (.agg s.cells.toArray) (.agg s.cells.toArray) _ _ (by simp [Value.formed, Tryd.underlying59, cells_s, Sec.len h]) (by simp [Value.formed, Tryd.underlying59, cells_s, Sec.len h]) (lits_sec h) (lits_sec h)
  rw [show (10000 : Nat) = 9997 + 3 from rfl, hr]
  congr 1
  rw [hiff]
theorem eq_wri {x : Wri} (h : x.ok) (W : World) : (Op.equalIn 10000 79 (.agg x.cells.toArray) (.agg x.cells.toArray)).run Tryd.prog W = .ok true W := by
  obtain ⟨r, hr, hiff⟩ := run_equalIn_deep 9997 3 79 (by kernel_rfl) W 3 3 (.agg x.cells.toArray) (.agg x.cells.toArray) _ _ (by simp [Value.formed, Tryd.underlying79, cells_w, Wri.leng h]) (by simp [Value.formed, Tryd.underlying79, cells_w, Wri.leng h]) (lits_wri h) (lits_wri h)
  rw [show (10000 : Nat) = 9997 + 3 from rfl, hr]
  congr 1
  rw [hiff]
end Go.Proofs.YtlleandelcjhjaaDoor.DiskSame
