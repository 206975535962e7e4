/- Nodes as values, held against each other. -/
import Derived.Test.YtfjkbabeceaelaaInoNew
set_option linter.unusedVariables false
set_option linter.unusedSimpArgs false
namespace Go.Proofs.Ytfjkbabeceaelaa.InoEq
open Go Go.RowKit Go.Proofs.Ytfjkbabeceaelaa.K Go.Proofs.Ytfjkbabeceaelaa.EqKit Go.Proofs.Ytfjkbabeceaelaa.PtrKit Go.Proofs.Ytfjkbabeceaelaa.ArrKit Go.Proofs.Ytfjkbabeceaelaa.HeldKit Go.Proofs.Ytfjkbabeceaelaa.PtrAsk Go.Proofs.Ytfjkbabeceaelaa.PtrRRight Go.Proofs.Ytfjkbabeceaelaa.ShaStep Go.Proofs.Ytfjkbabeceaelaa.ShaSum Go.Proofs.Ytfjkbabeceaelaa.PtrOf Go.Proofs.Ytfjkbabeceaelaa.PtrROf Go.Proofs.Ytfjkbabeceaelaa.InoKit Go.Proofs.Ytfjkbabeceaelaa.InoNew

def vl (v : V3) : List Lit := Lit.int .i64 v.a :: Lit.int .i64 v.b :: v.s.map fun x => Lit.int .u8 (x.toNat : Int)
theorem cells_t : Try.prog.cellsOf 28 = 36 := by kernel_rfl
theorem cells_n : Try.prog.cellsOf 30 = 39 := by kernel_rfl
theorem lits_v {v : V3} (h : v.ok) : Try.prog.keyLits 3 26 v.pc = some (vl v) := lits_ptr v.a v.b v.s h.len h.wa h.wb
theorem lits_stem {v : V3} (h : v.ok) {z c : Int} (hz : (Lit.int .i64 z).wf = true) (hc : (Lit.int .i64 c).wf = true) : Try.prog.keyLits 4 28 (v.pc ++ [.int .i64 z, .int .i64 c]) = some (vl v ++ [Lit.int .i64 z, Lit.int .i64 c]) := by
  have hl := pc_length h
  have hv := lits_v h
  generalize v.pc = p at *
  unfold Program.keyLits
  rw [Try.underlying28]
  have h34 : (p ++ [Value.int .i64 z, .int .i64 c]).take 34 = p := by rw [List.take_append_of_le_length (by omega), List.take_of_length_le (by omega)]
  have d34 : (p ++ [Value.int .i64 z, .int .i64 c]).drop 34 = [.int .i64 z, .int .i64 c] := by rw [← hl, List.drop_left]
  have d35 : (p ++ [Value.int .i64 z, .int .i64 c]).drop 35 = [.int .i64 c] := by rw [show (35 : Nat) = p.length + 1 by omega, List.drop_append]; simp
  simp [cells_t, cells_p, cells_i, hl, hv, h34, d34, d35, lits_int 2 Try.underlying3 hz, lits_int 2 Try.underlying3 hc]
def nl (x : NV) : List Lit := Lit.int .i64 x.num :: Lit.int .i64 x.kind :: Lit.int .i64 x.links :: (vl x.root ++ [Lit.int .i64 x.size, Lit.int .i64 x.cps])
theorem lits_node {x : NV} (h : x.ok) : Try.prog.keyLits 5 30 x.cells = some (nl x) := by
  have hl : (x.root.pc ++ [Value.int .i64 x.size, .int .i64 x.cps]).length = 36 := by simp [pc_length h.root]
  have hv := lits_stem h.root h.ws h.wc
  rw [NV.cells, nl]
  generalize x.root.pc ++ [Value.int .i64 x.size, .int .i64 x.cps] = p at *
  generalize vl x.root ++ [Lit.int .i64 x.size, Lit.int .i64 x.cps] = q at *
  unfold Program.keyLits
  rw [Try.underlying30]
  have h36 : p.take 36 = p := List.take_of_length_le (by omega)
  simp [cells_n, cells_t, cells_i, hl, hv, h36, lits_int 3 Try.underlying3 h.wn, lits_int 3 Try.underlying3 h.wk, lits_int 3 Try.underlying3 h.wl]
theorem guard_n : Try.prog.eqGuardType Try.prog.depth 30 = false := by kernel_rfl
theorem guard_b : Try.prog.eqGuardType Try.prog.depth 22 = false := by kernel_rfl
theorem eq_node {x : NV} (h : x.ok) (W : World) : (Op.equalIn 10000 30 (.agg x.cells.toArray) (.agg x.cells.toArray)).run Try.prog W = .ok true W := by
  have hf : (Value.agg x.cells.toArray).formed Try.prog 30 = true := by simp [Value.formed, Try.underlying30, cells_n, NV.cells_length h]
  obtain ⟨r, hr, hiff⟩ := run_equalIn_deep 9995 5 30 (by kernel_rfl) W 5 5 (.agg x.cells.toArray) (.agg x.cells.toArray) _ _ hf hf (lits_node h) (lits_node h)
  rw [show (10000 : Nat) = 9995 + 5 from rfl, hr]
  congr 1
  rw [hiff]
/-- the node that is none -/
def noN : NV := ⟨0, 0, 0, ⟨0, 0, Z⟩, 0, 0⟩
theorem noN_ok : noN.ok := ⟨⟨Z_len, (by show (Lit.int .i64 0).wf = true; decide), (by show (Lit.int .i64 0).wf = true; decide)⟩, by show (Lit.int .i64 0).wf = true; decide, by show (Lit.int .i64 0).wf = true; decide, by show (Lit.int .i64 0).wf = true; decide, by show (Lit.int .i64 0).wf = true; decide, by show (Lit.int .i64 0).wf = true; decide⟩
theorem noN_cells : noN.cells.toArray = ZN := by kernel_rfl
theorem eq_none (W : World) : (Op.equalIn 10000 30 (.agg ZN) (.agg ZN)).run Try.prog W = .ok true W := by
  rw [← noN_cells]
  exact eq_node noN_ok W

end Go.Proofs.Ytfjkbabeceaelaa.InoEq
