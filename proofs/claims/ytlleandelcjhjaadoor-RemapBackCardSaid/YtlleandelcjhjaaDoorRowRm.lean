/- What a row wants of an argument that is a table. -/
import Derived.Test.YtlleandelcjhjaaDoorRowKit
import Derived.Test.YtlleandelcjhjaaDoorRowDisk
import Derived.Test.YtlleandelcjhjaaDoorRmRRight
import Derived.Test.YtlleandelcjhjaaDoorRmTab
set_option maxRecDepth 100000
set_option linter.unusedVariables false
set_option linter.unusedSimpArgs false
namespace Go.Proofs.YtlleandelcjhjaaDoor.RowRm
open Go Go.RowKit Go.Proofs.YtlleandelcjhjaaDoor.K Go.Proofs.YtlleandelcjhjaaDoor.EqKit Go.Proofs.YtlleandelcjhjaaDoor.ArrKit Go.Proofs.YtlleandelcjhjaaDoor.HeldKit Go.Proofs.YtlleandelcjhjaaDoor.GKit Go.Proofs.YtlleandelcjhjaaDoor.GRow Go.Proofs.YtlleandelcjhjaaDoor.DiskKit Go.Proofs.YtlleandelcjhjaaDoor.RmKit Go.Proofs.YtlleandelcjhjaaDoor.DiskFlush Go.Proofs.YtlleandelcjhjaaDoor.RowDisk Go.ChangeShapes Go.WideShapes Go.ChangeAt Go.Proofs.YtlleandelcjhjaaDoor.RowKit

section
variable {H : Type} {enc : TypeId × Value → H} {W : World} {base : Nat} {spare : Nat → Bool} {held : Bool}
theorem cells_prs : Tryd.prog.cellsOf 22 = 1 := by kernel_rfl
theorem cells_pr : Tryd.prog.cellsOf 69 = 2 := by kernel_rfl
theorem cells_rm : Tryd.prog.cellsOf 24 = 2 := by kernel_rfl
theorem pair_cells {n : Nat} {cs : List Value} {x : DataW H × List MemPlace} (h : DataW.trod enc Tryd.prog W base spare held n 69 cs = some x) : ∃ s : Int × Int, cs = PR s ∧ ((Lit.int .i64 s.1).wf = true ∧ (Lit.int .i64 s.2).wf = true) := by
  obtain ⟨xs, m, -, -, hl, hxl, hf⟩ := DataW.trod_struct Tryd.underlying69 h
  rw [cells_pr] at hl
  have hxl' : xs.length = 2 := hxl
  have f0 := hf 0 _ rfl
  have f1 := hf 1 _ rfl
  rw [List.getElem?_eq_getElem (by omega)] at f0 f1
  obtain ⟨a, e0, -, wf0⟩ := DataW.trod_int Tryd.underlying3 f0
  obtain ⟨b, e1, -, wf1⟩ := DataW.trod_int Tryd.underlying3 f1
  have e0'' : (cs.drop 0).take (Tryd.prog.cellsOf 3) = [.int .i64 a] := e0
  have e1'' : (cs.drop 1).take (Tryd.prog.cellsOf 3) = [.int .i64 b] := e1
  rw [cells_i] at e0'' e1''
  have e0' : cs[0]? = some (.int .i64 a) := take_one (i := 0) e0''
  have e1' : cs[1]? = some (.int .i64 b) := take_one (i := 1) e1''
  refine ⟨(a, b), ?_, wf0, wf1⟩
  apply List.ext_getElem?
  intro i
  rcases (show i = 0 ∨ i = 1 ∨ 2 ≤ i by omega) with rfl | rfl | hi
  · rw [e0']; rfl
  · rw [e1']; rfl
  · rw [List.getElem?_eq_none (by omega), List.getElem?_eq_none (by rw [PR_len]; omega)]
/-- A TABLE BY VALUE, OPENED. -/
theorem open_rm {ts : List TypeId} {ds : List (DataW H)} {j : Nat} {b0 : Nat} {v : Value} {d : DataW H} {p : List MemPlace}
    (hsz : (DataW.weightsEach Tryd.prog ts ds).all (· ≤ reachBytes) = true) (hj : ts[j]? = some 24) (hd : ds[j]? = some d)
    (hv : Value.okWide Tryd.prog W .any b0 24 v) (h : DataW.Trod enc Tryd.prog W 0 (fun _ => true) true 24 v d p) :
    ∃ (m : Rm) (a : Option Addr) (c : Nat), v = .agg (rval m a c) ∧ m.ok ∧ RV W m a c ∧ m.ps.length * 16 ≤ 140737488351232 := by
  obtain ⟨cs, rfl, hcz, -⟩ := agg_of Tryd.underlying24 rfl (show Tryd.prog.cellTypes Tryd.prog.depth 24 = some [3, 22] by kernel_rfl) hv
  obtain ⟨fuel, hf⟩ := h
  obtain ⟨xs, m, -, hx, hl, hxl, hg⟩ := DataW.trod_struct Tryd.underlying24 hf
  rw [cells_rm] at hl hcz
  have hxl' : xs.length = 2 := hxl
  have f0 := hg 0 _ rfl
  have f1 := hg 1 _ rfl
  rw [List.getElem?_eq_getElem (by omega)] at f0 f1
  obtain ⟨gn, e0, -, wf⟩ := DataW.trod_int Tryd.underlying3 f0
  obtain ⟨a, n1, c, l1, e1, hl1, hr1, hok1, hc1, hm1, hw1⟩ := open_rows (f := PR) (okp := fun s => (Lit.int .i64 s.1).wf = true ∧ (Lit.int .i64 s.2).wf = true) ⟨((0 : Int), (0 : Int))⟩ Tryd.underlying22 cells_pr (by decide) (fun x => by rw [PR_len]; omega) (fun _ _ _ h => pair_cells h) f1
  subst hl1
  have hdd : d = (.agg (xs.map (·.1))) := (congrArg Prod.fst hx)
  have g0 : (cs.toList.drop 0).take (Tryd.prog.cellsOf 3) = _ := e0
  have g1 : (cs.toList.drop 1).take (Tryd.prog.cellsOf 22) = _ := e1
  rw [cells_i] at g0
  rw [cells_prs] at g1
  have c0 := take_one (i := 0) g0
  have c1 := take_one (i := 1) g1
  refine ⟨⟨gn, l1⟩, a, c, ?_, ⟨wf, hok1⟩, ⟨hr1, hc1, hm1⟩, ?_⟩
  · congr 1
    apply Array.ext_getElem?
    intro i
    rw [← Array.getElem?_toList]
    rcases (show i = 0 ∨ i = 1 ∨ 2 ≤ i by omega) with rfl | rfl | hi
    · rw [c0]; rfl
    · rw [c1]; rfl
    · rw [List.getElem?_eq_none (by rw [Array.length_toList]; omega), Array.getElem?_eq_none (show (rval _ a c).size ≤ i from hi)]
  · rcases hw1 with ⟨-, h0⟩ | ⟨el, sp, e, h0⟩
    · show l1.length * 16 ≤ _; rw [h0]; omega
    · have hmem := DataW.weights_mem_each (P := Tryd.prog) hj hd ((el.length + sp.length) * Tryd.prog.bytesOf 69) (by
        rw [hdd]
        simp only [DataW.weights, Tryd.underlying24]
        exact DataW.weights_mem_each (j := 1) (t := 22) (d := .slice el sp) rfl (by rw [List.getElem?_map, List.getElem?_eq_getElem (by omega), Option.map_some, e]) _ (by simp [DataW.weights, Tryd.underlying22]))
      have := List.all_eq_true.1 hsz _ hmem
      rw [show Tryd.prog.bytesOf 69 = 16 by kernel_rfl] at this
      have hz : (140737488351232 : Nat) = reachBytes := by decide
      simp at this
      show l1.length * 16 ≤ _
      omega
end

end Go.Proofs.YtlleandelcjhjaaDoor.RowRm
