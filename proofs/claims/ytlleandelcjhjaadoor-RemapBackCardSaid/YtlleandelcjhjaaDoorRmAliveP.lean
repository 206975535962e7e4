/- The fixed fact of the law, in plain words. -/
import Derived.Test.YtlleandelcjhjaaDoorRmFormat
import Derived.Test.YtlleandelcjhjaaDoorDiskHit
set_option maxRecDepth 100000
set_option linter.unusedVariables false
set_option linter.unusedSimpArgs false
namespace Go.Proofs.YtlleandelcjhjaaDoor.RmAliveP
open Go Go.RowKit Go.Proofs.YtlleandelcjhjaaDoor.K Go.Proofs.YtlleandelcjhjaaDoor.EqKit Go.Proofs.YtlleandelcjhjaaDoor.ArrKit Go.Proofs.YtlleandelcjhjaaDoor.HeldKit Go.Proofs.YtlleandelcjhjaaDoor.GKit Go.Proofs.YtlleandelcjhjaaDoor.GRow Go.Proofs.YtlleandelcjhjaaDoor.DiskKit Go.Proofs.YtlleandelcjhjaaDoor.RmKit Go.Proofs.YtlleandelcjhjaaDoor.MapKit Go.Proofs.YtlleandelcjhjaaDoor.RmRight Go.Proofs.YtlleandelcjhjaaDoor.RmRRight Go.Proofs.YtlleandelcjhjaaDoor.RmTab Go.Proofs.YtlleandelcjhjaaDoor.RmPut Go.Proofs.YtlleandelcjhjaaDoor.RmAsk Go.Proofs.YtlleandelcjhjaaDoor.RmSame Go.Proofs.YtlleandelcjhjaaDoor.DiskRRead Go.Proofs.YtlleandelcjhjaaDoor.RmRead Go.Proofs.YtlleandelcjhjaaDoor.RmReads Go.Proofs.YtlleandelcjhjaaDoor.DiskAct Go.Proofs.YtlleandelcjhjaaDoor.RmSpare Go.Proofs.YtlleandelcjhjaaDoor.RmKeep Go.Proofs.YtlleandelcjhjaaDoor.RmFirst Go.Proofs.YtlleandelcjhjaaDoor.RmFormat Go.Proofs.YtlleandelcjhjaaDoor.DiskNew Go.Proofs.YtlleandelcjhjaaDoor.DiskHit Go.Proofs.YtlleandelcjhjaaDoor.DiskLay

theorem flushD_ok {d : Dk} (h : d.ok) : (flushD d).ok := by
  unfold flushD
  split
  · exact h
  · split
    · exact actD_ok h
    · exact layD_ok (actD_ok h) _
def B7 : List UInt8 := 7 :: List.replicate 127 0
theorem B7_len : B7.length = 128 := by simp [B7]
def MA : Rm := ⟨0, []⟩
def MB : Rm := ⟨1, [(2, 8)]⟩
def E0 : Dk := newD 28
def E1 (T : List UInt8) : Dk := writeD E0 0 T
def E2 (T : List UInt8) : Dk := writeD (E1 T) 4 T
def C1 (T : List UInt8) : Dk := flushD (E2 T)
def C2 (T : List UInt8) : Dk := hitD (C1 T) 2 3 0 0
def C2b (T : List UInt8) : Dk := writeD (C2 T) 2 B7
def C3 (T : List UInt8) : Dk := writeD (C2b T) 8 B7
def C3f (T : List UInt8) : Dk := flushD (C3 T)
def C4a (T U : List UInt8) : Dk := writeD (C3f T) 1 U
def C4b (T U : List UInt8) : Dk := writeD (C4a T U) 5 U
def C4 (T U : List UInt8) : Dk := flushD (C4b T U)
section
variable (T U : List UInt8)
theorem p_e0 : newE 28 = 0 := by kernel_rfl
theorem p_h : hvI E0 = 4 := by kernel_rfl
theorem p_s0 : E0.S.length = 28 := by kernel_rfl
theorem p_c0 : E0.C.length = 0 := by kernel_rfl
theorem p_w0 : writeE E0 0 = 0 := by kernel_rfl
theorem p_w1 : writeE (E1 T) 4 = 0 := by kernel_rfl
theorem p_f1 : flushE (E2 T) = 0 := by kernel_rfl
theorem p_hit : hitE (C1 T) 2 3 0 = 0 := by kernel_rfl
theorem p_s2 : (C2 T).S.length = 28 := by kernel_rfl
theorem p_c2 : (C2 T).C.length = 0 := by kernel_rfl
theorem p_ask : askedB (C2 T) MA 2 = true := by kernel_rfl
theorem p_w2 : writeE (C2 T) 2 = 2 := by kernel_rfl
theorem p_sp : spareR MA B7 20 8 (C2b T) = (8, 0, C3 T) := by kernel_rfl
theorem p_s3 : (C3 T).S.length = 28 := by kernel_rfl
theorem p_f3 : flushE (C3 T) = 0 := by kernel_rfl
theorem p_s3f : (C3f T).S.length = 28 := by kernel_rfl
theorem p_c3f : (C3f T).C.length = 0 := by kernel_rfl
theorem p_tab : tabB MB 28 = true := by kernel_rfl
theorem p_k1 : writeE (C3f T) 1 = 0 := by kernel_rfl
theorem p_k2 : writeE (C4a T U) 5 = 0 := by kernel_rfl
theorem p_k3 : flushE (C4b T U) = 0 := by kernel_rfl
theorem p_ask4 : askedB (C4 T U) MB 2 = true := by kernel_rfl
theorem p_at : atI MB 2 = 8 := by kernel_rfl
theorem p_rd : readX (C4 T U) 8 = (B7, 0) := by kernel_rfl
theorem p_half : half 28 = 4 := by kernel_rfl
end

end Go.Proofs.YtlleandelcjhjaaDoor.RmAliveP
