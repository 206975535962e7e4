/- What the row of DiskSure wants. -/
import Derived.Test.YtboakipfhidkmaaRowDisk
import Derived.Test.YtboakipfhidkmaaSureLaw
set_option linter.unusedVariables false
set_option linter.unusedSimpArgs false
namespace Go.Proofs.Ytboakipfhidkmaa.RowSure
open Go Go.RowKit Go.Proofs.Ytboakipfhidkmaa.K Go.Proofs.Ytboakipfhidkmaa.EqKit Go.Proofs.Ytboakipfhidkmaa.ArrKit Go.Proofs.Ytboakipfhidkmaa.HeldKit Go.Proofs.Ytboakipfhidkmaa.GKit Go.Proofs.Ytboakipfhidkmaa.GRow Go.Proofs.Ytboakipfhidkmaa.DiskKit Go.Proofs.Ytboakipfhidkmaa.DiskFlush Go.Proofs.Ytboakipfhidkmaa.RowDisk Go.Proofs.Ytboakipfhidkmaa.SureLaw Go.ChangeShapes Go.WideShapes Go.ChangeAt Go.Proofs.Ytboakipfhidkmaa.RowKit

theorem sure_any (l : List Stp) (la : Option Addr) (lc : Nat) (f : Int) (ka : Option Addr) (kc : Nat) (keep : List Bool) (w : World) (hfw : (Lit.int .i64 f).wf = true) (hrl : RdG Stp.cells 3 w la l) (hlc : l.length ≤ lc) (hlm : lc ≤ 9223372036854775807) (hrd : RdB w ka keep) (hkc : keep.length ≤ kc) (hkm : kc ≤ 9223372036854775807) : Calls Try.prog 7 #[.slice la l.length lc, .slice ka keep.length kc, .int .i64 f] w fun e w' => e = .returned (.bool true) ∧ Fr0 w w' := by
  by_cases h : 200 < l.length ∨ f < -1
  · exact sure_easy l la lc f ka kc keep w h (by omega)
  · exact sure_all l la lc f ka kc keep w (by omega) (by omega) hfw hrl hlc hrd hkc hkm
section
variable {H : Type} {enc : TypeId × Value → H} {W : World} {base : Nat} {spare : Nat → Bool} {held : Bool}
theorem cells_st : Try.prog.cellsOf 53 = 3 := by kernel_rfl
theorem stp_cells {n : Nat} {cs : List Value} {x : DataW H × List MemPlace} (h : DataW.trod enc Try.prog W base spare held n 53 cs = some x) : ∃ s : Stp, cs = s.cells ∧ True := by
  obtain ⟨xs, m, -, -, hl, hxl, hf⟩ := DataW.trod_struct Try.underlying53 h
  rw [cells_st] at hl
  have hxl' : xs.length = 3 := hxl
  have f0 := hf 0 _ rfl
  have f1 := hf 1 _ rfl
  have f2 := hf 2 _ rfl
  rw [List.getElem?_eq_getElem (by omega)] at f0 f1 f2
  obtain ⟨a, e0, -, wf0⟩ := DataW.trod_int Try.underlying5 f0
  obtain ⟨b, e1, -, wf1⟩ := DataW.trod_int Try.underlying5 f1
  obtain ⟨g, e2, -⟩ := DataW.trod_bool Try.underlying4 f2
  have e0'' : (cs.drop 0).take (Try.prog.cellsOf 5) = [.int .u8 a] := e0
  have e1'' : (cs.drop 1).take (Try.prog.cellsOf 5) = [.int .u8 b] := e1
  have e2'' : (cs.drop 2).take (Try.prog.cellsOf 4) = [.bool g] := e2
  rw [cells_u] at e0'' e1''
  rw [cells_bo] at e2''
  have e0' : cs[0]? = some (.int .u8 a) := take_one (i := 0) e0''
  have e1' : cs[1]? = some (.int .u8 b) := take_one (i := 1) e1''
  have e2' : cs[2]? = some (.bool g) := take_one (i := 2) e2''
  have ha : 0 ≤ a ∧ a ≤ 255 := by simpa [Lit.wf, IntKind.min, IntKind.max, IntKind.signed, IntKind.bits] using wf0
  have hb : 0 ≤ b ∧ b ≤ 255 := by simpa [Lit.wf, IntKind.min, IntKind.max, IntKind.signed, IntKind.bits] using wf1
  obtain ⟨y, rfl⟩ : ∃ y : UInt8, a = (y.toNat : Int) := ⟨UInt8.ofNat a.toNat, by simp only [UInt8.toNat_ofNat']; omega⟩
  obtain ⟨z, rfl⟩ : ∃ y : UInt8, b = (y.toNat : Int) := ⟨UInt8.ofNat b.toNat, by simp only [UInt8.toNat_ofNat']; omega⟩
  refine ⟨⟨y, z, g⟩, ?_, trivial⟩
  apply List.ext_getElem?
  intro i
  rcases (show i = 0 ∨ i = 1 ∨ i = 2 ∨ 3 ≤ i by omega) with rfl | rfl | rfl | hi
  · rw [e0']; rfl
  · rw [e1']; rfl
  · rw [e2']; rfl
  · rw [List.getElem?_eq_none (by omega), List.getElem?_eq_none (by simpa [Stp.cells] using hi)]
theorem open_steps {b0 : Nat} {v : Value} {d : DataW H} {p : List MemPlace} (hv : Value.okWide Try.prog W .any b0 48 v) (h : DataW.Trod enc Try.prog W 0 (fun _ => true) true 48 v d p) :
    ∃ (la : Option Addr) (lc : Nat) (l : List Stp), v = .slice la l.length lc ∧ RdG Stp.cells 3 W la l ∧ l.length ≤ lc ∧ lc ≤ 9223372036854775807 := by
  obtain ⟨fuel, hf⟩ := h
  have hvc : ∃ a n c, v = .slice a n c := by
    unfold Value.okWide at hv
    rw [Try.underlying48] at hv
    unfold Cell.okWide at hv
    rw [Try.underlying48] at hv
    unfold Cell.ok at hv
    rw [Try.underlying48] at hv
    cases v <;> first | exact ⟨_, _, _, rfl⟩ | exact hv.elim
  obtain ⟨a, n, c, rfl⟩ := hvc
  obtain ⟨ka, kn, kc, l, e, hl, hr, -, hc, hm, -⟩ := open_rows (f := Stp.cells) (okp := fun _ => True) ⟨⟨0, 0, false⟩⟩ Try.underlying48 cells_st (by decide) (fun _ => by simp [Stp.cells]) (fun n cs x h => stp_cells h) hf
  simp only [Value.cells, List.cons.injEq, Value.slice.injEq, and_true] at e
  obtain ⟨rfl, rfl, rfl⟩ := e
  subst hl
  exact ⟨a, c, l, rfl, hr, hc, hm⟩
end

end Go.Proofs.Ytboakipfhidkmaa.RowSure
