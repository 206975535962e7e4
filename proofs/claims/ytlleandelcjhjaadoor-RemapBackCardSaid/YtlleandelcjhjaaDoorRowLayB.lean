/- What a row wants of an argument that tells what is written where. -/
import Derived.Test.YtlleandelcjhjaaDoorRowDisk
import Derived.Test.YtlleandelcjhjaaDoorRmBackLaw
set_option maxRecDepth 100000
set_option linter.unusedVariables false
set_option linter.unusedSimpArgs false
namespace Go.Proofs.YtlleandelcjhjaaDoor.RowLayB
open Go Go.RowKit Go.Proofs.YtlleandelcjhjaaDoor.K Go.Proofs.YtlleandelcjhjaaDoor.EqKit Go.Proofs.YtlleandelcjhjaaDoor.ArrKit Go.Proofs.YtlleandelcjhjaaDoor.HeldKit Go.Proofs.YtlleandelcjhjaaDoor.GKit Go.Proofs.YtlleandelcjhjaaDoor.GRow Go.Proofs.YtlleandelcjhjaaDoor.DiskKit Go.Proofs.YtlleandelcjhjaaDoor.RowDisk Go.Proofs.YtlleandelcjhjaaDoor.RmBackLaw Go.ChangeShapes Go.WideShapes Go.ChangeAt Go.Proofs.YtlleandelcjhjaaDoor.RowKit

section
variable {H : Type} {enc : TypeId × Value → H} {W : World} {base : Nat} {spare : Nat → Bool} {held : Bool}
theorem cells_l : Tryd.prog.cellsOf 47 = 129 := by kernel_rfl
theorem lay_cells {n : Nat} {cs : List Value} {x : DataW H × List MemPlace} (h : DataW.trod enc Tryd.prog W base spare held n 47 cs = some x) : ∃ y : Wri, cs = y.cells ∧ y.ok := by
  obtain ⟨xs, m, -, -, hl, hxl, hf⟩ := DataW.trod_struct Tryd.underlying47 h
  rw [cells_l] at hl
  have hxl' : xs.length = 2 := hxl
  have f0 := hf 0 _ rfl
  have f1 := hf 1 _ rfl
  rw [List.getElem?_eq_getElem (by omega)] at f0 f1
  obtain ⟨a, e0, -, wf⟩ := DataW.trod_int Tryd.underlying3 f0
  obtain ⟨b, e1, hb⟩ := block_cells f1
  have e0'' : (cs.drop 0).take (Tryd.prog.cellsOf 3) = [.int .i64 a] := e0
  rw [cells_i] at e0''
  have e0' : cs[0]? = some (.int .i64 a) := take_one (i := 0) e0''
  have e1' : (cs.drop 1).take (Tryd.prog.cellsOf 27) = b.map B := e1
  rw [cells_b] at e1'
  refine ⟨⟨a, b⟩, ?_, hb, wf⟩
  apply List.ext_getElem?
  intro i
  rcases (show i = 0 ∨ (1 ≤ i ∧ i < 129) ∨ 129 ≤ i by omega) with rfl | hi | hi
  · rw [e0']; rfl
  · obtain ⟨j, rfl⟩ : ∃ j, i = j + 1 := ⟨i - 1, by omega⟩
    rw [Wri.data_at]
    show cs[j + 1]? = (b.map B)[j]?
    rw [← e1', List.getElem?_take, if_pos (by omega), List.getElem?_drop, Nat.add_comm]
  · rw [List.getElem?_eq_none (by omega), List.getElem?_eq_none (by rw [Wri.leng (show (Wri.mk a b).ok from ⟨hb, wf⟩)]; omega)]
theorem open_lay {b0 : Nat} {v : Value} {d : DataW H} {p : List MemPlace} (hv : Value.okWide Tryd.prog W .any b0 47 v) (h : DataW.Trod enc Tryd.prog W 0 (fun _ => true) true 47 v d p) :
    ∃ (n : Int) (b : List UInt8), v = .agg (LAYV n b) ∧ b.length = 128 ∧ (Lit.int .i64 n).wf = true := by
  obtain ⟨cs, rfl, hcz, -⟩ := agg_of Tryd.underlying47 rfl (show Tryd.prog.cellTypes Tryd.prog.depth 47 = some (3 :: List.replicate 128 5) by kernel_rfl) hv
  obtain ⟨fuel, hf⟩ := h
  obtain ⟨⟨n, b⟩, hb, hok⟩ := lay_cells hf
  have hcl : (Value.agg cs).cells.toList = cs.toList := rfl
  rw [hcl] at hb
  refine ⟨n, b, ?_, hok.len, hok.wf⟩
  show _ = Value.agg (Wri.cells ⟨n, b⟩).toArray
  rw [← hb]
end

end Go.Proofs.YtlleandelcjhjaaDoor.RowLayB
