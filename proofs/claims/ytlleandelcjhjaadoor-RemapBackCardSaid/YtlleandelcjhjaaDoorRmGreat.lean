/- More than is looked at: the walk of great. -/
import Derived.Test.YtlleandelcjhjaaDoorRmAlive
set_option maxRecDepth 100000
set_option linter.unusedVariables false
set_option linter.unusedSimpArgs false
namespace Go.Proofs.YtlleandelcjhjaaDoor.RmGreat
open Go Go.RowKit Go.Proofs.YtlleandelcjhjaaDoor.K Go.Proofs.YtlleandelcjhjaaDoor.EqKit Go.Proofs.YtlleandelcjhjaaDoor.ArrKit Go.Proofs.YtlleandelcjhjaaDoor.HeldKit Go.Proofs.YtlleandelcjhjaaDoor.GKit Go.Proofs.YtlleandelcjhjaaDoor.GRow Go.Proofs.YtlleandelcjhjaaDoor.DiskKit Go.Proofs.YtlleandelcjhjaaDoor.RmKit Go.Proofs.YtlleandelcjhjaaDoor.MapKit Go.Proofs.YtlleandelcjhjaaDoor.RmRight Go.Proofs.YtlleandelcjhjaaDoor.RmRRight Go.Proofs.YtlleandelcjhjaaDoor.RmTab Go.Proofs.YtlleandelcjhjaaDoor.RmPut Go.Proofs.YtlleandelcjhjaaDoor.RmRPut Go.Proofs.YtlleandelcjhjaaDoor.RmAsk Go.Proofs.YtlleandelcjhjaaDoor.RmSame Go.Proofs.YtlleandelcjhjaaDoor.DiskSame Go.Proofs.YtlleandelcjhjaaDoor.DiskRRead Go.Proofs.YtlleandelcjhjaaDoor.RmRead Go.Proofs.YtlleandelcjhjaaDoor.RmReads Go.Proofs.YtlleandelcjhjaaDoor.RmAlive

set_option maxHeartbeats 2000000 in
set_option maxRecDepth 100000 in
theorem great_calls (d : Dk) (sa : Option Addr) (sc : Nat) (ca : Option Addr) (cc : Nat) (w : World) (hv : DV w d sa sc ca cc) : Calls Tryd.prog 20 #[.agg (dval d sa sc ca cc)] w fun e w' => e = .returned (.bool (decide (300 < d.C.length))) ∧ Fr0 w w' := by
  have HB : Hid (Bk (w.alloc (.cells (dval d sa sc ca cc) 39)) w.heap.size (dval d sa sc ca cc) 39) := Lib.hid (Bk.new w _)
  have HF : Hid (Fr0 w (w.alloc (.cells (dval d sa sc ca cc) 39))) := Lib.hid (Fr.alloc (Fr.refl _ _) _)
  have hc1 : (w.alloc (.cells (dval d sa sc ca cc) 39)).cell? ⟨w.heap.size, 1, none⟩ = some (.slice ca d.C.length cc) := Bk.cell HB.out 1
  have hx : (300 < (d.C.length : Int)) ↔ (300 < d.C.length) := by omega
  clear hv
  by_cases h : 300 < d.C.length
  · rw [decide_eq_true h]
    have h2 := hx.mpr h
    go_enter Tryd.func20, Tryd.ntmps20
    go_wp2
    go_ret
    exact ⟨rfl, HF.out⟩
  · rw [decide_eq_false h]
    have h2 : ¬ (300 < (d.C.length : Int)) := fun x => h (hx.mp x)
    go_enter Tryd.func20, Tryd.ntmps20
    go_wp2
    go_ret
    exact ⟨rfl, HF.out⟩

end Go.Proofs.YtlleandelcjhjaaDoor.RmGreat
